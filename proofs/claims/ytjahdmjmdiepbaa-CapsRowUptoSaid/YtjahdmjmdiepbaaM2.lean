/- What the functions on capabilities compute, told over numbers and lists: Make cuts, Encode and Bytes lay sixteen bytes, Decode reads them. Plain facts about the printed functions; no memory in them. -/
import Derived.Test.YtjahdmjmdiepbaaM1
import Derived.Test.YtjahdmjmdiepbaaF8
import Derived.Test.YtjahdmjmdiepbaaF11
import Derived.Test.YtjahdmjmdiepbaaF13
import Derived.Test.YtjahdmjmdiepbaaF16
namespace Go.Proofs.Ytjahdmjmdiepbaa.M
open Go Go.RowKit Go.Proofs.Ytjahdmjmdiepbaa.PA Go.Proofs.YtjahdmjmdiepbaaW.PrintWords Go.Proofs.YtjahdmjmdiepbaaW.PrintLast Go.Proofs.YtjahdmjmdiepbaaW.PrintMore
theorem awake_at : sigillumlaw03_awake.f 12 = some true := by decide +kernel
theorem awake_k (k : Nat) (hk : 12 ≤ k) : sigillumlaw03_awake.f k = some true := at_rounds (g := fun k => sigillumlaw03_awake.f k) sigillumlaw03_awake.mono hk awake_at
theorem mask48 (x : Int) (h0 : 0 ≤ x) (h1 : x < 18446744073709551616) : Go.bits .and .u64 x 281474976710655 = x % 281474976710656 :=
  bits_mask .u64 64 (by decide) (fun n h0 h1 => u64_in n h0 (by simpa using h1)) 48 (by decide) x h0 (by simpa using h1)
theorem u32_in (n : Int) (h0 : 0 ≤ n) (h1 : n < 4294967296) : IntKind.u32.wrap n = n := by rw [IntKind.wrap_u32]; omega
theorem mask24 (x : Int) (h0 : 0 ≤ x) (h1 : x < 4294967296) : Go.bits .and .u32 x 16777215 = x % 16777216 :=
  bits_mask .u32 32 (by decide) (fun n h0 h1 => u32_in n h0 (by simpa using h1)) 24 (by decide) x h0 (by simpa using h1)
/-- the parts of a capability as Go has them -/
structure CapOk (p o r c : Int) : Prop where
  p0 : 0 ≤ p
  p1 : p < 18446744073709551616
  o0 : 0 ≤ o
  o1 : o < 4294967296
  r0 : 0 ≤ r
  r1 : r < 256
  c0 : 0 ≤ c
  c1 : c < 18446744073709551616
/-- .. and those of one that may be -/
structure CapMay (p o r c : Int) : Prop where
  p0 : 0 ≤ p
  p1 : p < 281474976710656
  o0 : 0 ≤ o
  o1 : o < 16777216
  r0 : 0 ≤ r
  r1 : r < 256
  c0 : 0 ≤ c
  c1 : c < 281474976710656
theorem CapMay.ok {p o r c : Int} (h : CapMay p o r c) : CapOk p o r c := ⟨h.p0, by have := h.p1; omega, h.o0, by have := h.o1; omega, h.r0, h.r1, h.c0, by have := h.c1; omega⟩
theorem cut_may {p o r c : Int} (h : CapOk p o r c) : CapMay (p % 281474976710656) (o % 16777216) r (c % 281474976710656) :=
  ⟨by omega, by omega, by omega, by omega, h.r0, h.r1, by omega, by omega⟩
theorem make_f {p o r c : Int} (h : CapOk p o r c) : sigillumlaw03_Make.f p o r c = some (p % 281474976710656, o % 16777216, r, c % 281474976710656) := by
  unfold sigillumlaw03_Make.f
  rw [mask48 p h.p0 h.p1, mask24 o h.o0 h.o1, mask48 c h.c0 h.c1]
def mayB (p o c : Int) : Bool := decide (p < 281474976710656) && (decide (o < 16777216) && decide (c < 281474976710656))
theorem mayB_iff {p o r c : Int} (h : CapOk p o r c) : mayB p o c = true ↔ CapMay p o r c := by
  simp only [mayB, Bool.and_eq_true, decide_eq_true_eq]
  exact ⟨fun ⟨a, b, d⟩ => ⟨h.p0, a, h.o0, b, h.r0, h.r1, h.c0, d⟩, fun m => ⟨m.p1, m.o1, m.c1⟩⟩
theorem may_f {p o r c : Int} (h : CapOk p o r c) : sigillumlaw03_may.f p o r c = some (mayB p o c) := by
  unfold sigillumlaw03_may.f
  rw [make_f h]
  simp only [Option.bind_some]
  have e1 : (p == p % 281474976710656) = decide (p < 281474976710656) := by
    have := h.p0
    rw [Bool.eq_iff_iff]
    simp
    omega
  have e2 : (o == o % 16777216) = decide (o < 16777216) := by
    have := h.o0
    rw [Bool.eq_iff_iff]
    simp
    omega
  have e3 : (c == c % 281474976710656) = decide (c < 281474976710656) := by
    have := h.c0
    rw [Bool.eq_iff_iff]
    simp
    omega
  rw [e1, e2, e3]
  simp [mayB]
theorem May_f (p o r c : Int) : caps_May.f p o r c = some (mayB p o c) := by
  unfold caps_May.f mayB
  by_cases h1 : p ≤ 281474976710655
  · rw [if_pos h1]
    by_cases h2 : o < 16777216
    · rw [if_pos h2, decide_eq_true (show p < 281474976710656 by omega), decide_eq_true h2]
      simp only [Bool.true_and, Option.some.injEq]
      rw [Bool.eq_iff_iff]
      simp
      omega
    · rw [if_neg h2, decide_eq_false h2]
      simp
  · rw [if_neg h1, decide_eq_false (show ¬ p < 281474976710656 by omega)]
    simp
theorem be_snoc : ∀ (n : Nat) (v : Int), be (n + 1) v = be n (v / 256) ++ [v % 256]
  | 0, v => by simp [be]
  | n + 1, v => by
    have ih := be_snoc n v
    rw [be, ih, be, List.cons_append]
    congr 2
    rw [Int.pow_succ, Int.mul_comm, ← Int.ediv_ediv_of_nonneg (by decide)]
theorem bytes_l0 : ∀ (n k : Nat) (v : Int) (xs : List Int), n ≤ xs.length → xs.length ≤ 1000 → n < k → 0 ≤ v → v < 18446744073709551616 → sigillumlaw03_bytes.l0 k v xs ((n : Int) - 1) = some (be n v ++ xs.drop n) := by
  intro n
  induction n with
  | zero =>
    intro k v xs _ _ hk _ _
    obtain ⟨k, rfl⟩ : ∃ m, k = m + 1 := ⟨k - 1, by omega⟩
    simp only [sigillumlaw03_bytes.l0]
    rw [if_neg (by omega)]
    simp [be]
  | succ n ih =>
    intro k v xs hn hl hk h0 h1
    obtain ⟨k, rfl⟩ : ∃ m, k = m + 1 := ⟨k - 1, by omega⟩
    have e1 : ((n + 1 : Nat) : Int) - 1 = (n : Int) := by omega
    rw [e1]
    simp only [sigillumlaw03_bytes.l0]
    rw [if_pos (by omega), if_pos (by omega), if_pos (by omega), Int.tdiv_eq_ediv_of_nonneg h0, Int.tmod_eq_emod_of_nonneg h0, u64_in (v / 256) (by omega) (by omega), wrap64_in' _ (by omega), Int.toNat_natCast,
      ih k (v / 256) (xs.set n (v % 256 % 256)) (by simp; omega) (by simp; omega) (by omega) (by omega) (by omega), be_snoc]
    have e2 : (xs.set n (v % 256 % 256)).drop n = (v % 256) :: xs.drop (n + 1) := by
      rw [List.drop_eq_getElem_cons (show n < (xs.set n (v % 256 % 256)).length by simp; omega), List.drop_set_of_lt (by omega)]
      simp
    rw [e2]
    simp
theorem bytes_f (k n : Nat) (v : Int) (hn : n ≤ 100) (hk : n < k) (h0 : 0 ≤ v) (h1 : v < 18446744073709551616) : sigillumlaw03_bytes.f k v (n : Int) = some (be n v) := by
  unfold sigillumlaw03_bytes.f
  rw [if_pos (by omega), if_pos (by omega), wrap64_in' _ (by omega), Int.toNat_natCast, bytes_l0 n k v (List.replicate n 0) (by simp) (by simp; omega) hk h0 h1]
  simp
/-- the sixteen bytes -/
def capBytes (p o r c : Int) : List Int := be 6 p ++ be 3 o ++ [r] ++ be 6 c
theorem capBytes_length (p o r c : Int) : (capBytes p o r c).length = 16 := by simp [capBytes, be_length]
theorem capBytes_bytes {p o r c : Int} (h : CapOk p o r c) : Bytes8 (capBytes p o r c) := fun x hx => by
  have hr0 := h.r0
  have hr1 := h.r1
  simp only [capBytes, List.mem_append, List.mem_singleton] at hx
  rcases hx with ((hx | hx) | hx) | hx
  · exact be_bytes _ _ x hx
  · exact be_bytes _ _ x hx
  · omega
  · exact be_bytes _ _ x hx
theorem Bytes_f (k : Nat) (hk : 12 ≤ k) {p o r c : Int} (h : CapOk p o r c) : sigillumlaw03_Bytes.f k p o r c = some (capBytes p o r c) := by
  have hp0 := h.p0
  have hp1 := h.p1
  have ho0 := h.o0
  have ho1 := h.o1
  have hc0 := h.c0
  have hc1 := h.c1
  unfold sigillumlaw03_Bytes.f
  have e6 : sigillumlaw03_bytes.f k p 6 = some (be 6 p) := bytes_f k 6 p (by omega) (by omega) hp0 hp1
  have e3 : sigillumlaw03_bytes.f k o 3 = some (be 3 o) := bytes_f k 3 o (by omega) (by omega) ho0 (by omega)
  have e6' : sigillumlaw03_bytes.f k c 6 = some (be 6 c) := bytes_f k 6 c (by omega) (by omega) hc0 hc1
  rw [e6, u64_in o ho0 (by omega), e3, e6']
  simp only [Option.bind_some]
  rw [if_pos (by rw [be_length, be_length]; omega), if_pos (by simp [be_length]), if_pos (by simp [be_length])]
  rfl
theorem Encode_no (k : Nat) {p o r c : Int} (hm : mayB p o c = false) : caps_Encode.f k p o r c = some [] := by
  unfold caps_Encode.f
  rw [May_f, hm]
  simp
theorem Encode_f (k : Nat) (hk : 12 ≤ k) {p o r c : Int} (h : CapMay p o r c) : caps_Encode.f k p o r c = some (capBytes p o r c) := by
  have hp1 := h.p1
  have ho0 := h.o0
  have ho1 := h.o1
  have hr0 := h.r0
  have hr1 := h.r1
  unfold caps_Encode.f
  rw [May_f, (mayB_iff h.ok).2 h]
  simp only [Option.bind_some, if_true]
  have t : ∀ n v : Int, 1 ≤ n → n ≤ 8 → tail n v = be n.toNat v := fun n v a b => by
    unfold tail
    rw [if_pos ⟨a, b⟩]
  rw [put_f k [] p 6 hk (by decide), t 6 p (by decide) (by decide)]
  simp only [Option.bind_some]
  rw [put_f k _ _ 3 hk (by simp [be_length]), t 3 _ (by decide) (by decide)]
  simp only [Option.bind_some]
  rw [put_f k _ _ 1 hk (by simp [be_length]), t 1 _ (by decide) (by decide)]
  simp only [Option.bind_some]
  rw [put_f k _ _ 6 hk (by simp [be_length]), t 6 _ (by decide) (by decide)]
  simp only [Option.bind_some, Option.some.injEq]
  rw [u64_in o ho0 (by omega), u64_in r hr0 (by omega)]
  have e1 : be (1 : Int).toNat r = [r] := by
    show [r / 256 ^ 0 % 256] = [r]
    simp
    omega
  rw [e1]
  rfl
/-- the number of a part of the bytes -/
theorem Decode_f (k : Nat) (hk : 12 ≤ k) (l : List Int) (hb : Bytes8 l) (hl : l.length = 16) :
    caps_Decode.f k l = some (num ((l.drop 0).take 6), num ((l.drop 6).take 3), rd l 9, num ((l.drop 10).take 6), true) := by
  unfold caps_Decode.f
  rw [if_pos (by omega), get_f k l 0 6 hb hk (by decide) (by decide) (by decide) (by omega) (by omega), get_f k l 6 3 hb hk (by decide) (by decide) (by decide) (by omega) (by omega), get_f k l 10 6 hb hk (by decide) (by decide) (by decide) (by omega) (by omega)]
  simp only [Option.bind_some]
  rw [if_pos (by omega)]
  have hlen : ((l.drop (6 : Int).toNat).take (3 : Int).toNat).length = 3 := by simp; omega
  obtain ⟨h0, h1⟩ := num_bound ((l.drop (6 : Int).toNat).take (3 : Int).toNat) (bytes_take (bytes_drop hb _) _)
  rw [hlen] at h1
  rw [Int.emod_eq_of_lt h0 (by omega)]
  rfl
theorem Decode_no (k : Nat) (l : List Int) (hl : l.length ≠ 16) : caps_Decode.f k l = some (0, 0, 0, 0, false) := by
  unfold caps_Decode.f
  rw [if_neg (by omega)]
theorem Decode_bytes (k : Nat) (hk : 12 ≤ k) {p o r c : Int} (h : CapMay p o r c) : caps_Decode.f k (capBytes p o r c) = some (p, o, r, c, true) := by
  have hp0 := h.p0
  have hp1 := h.p1
  have ho0 := h.o0
  have ho1 := h.o1
  have hc0 := h.c0
  have hc1 := h.c1
  rw [Decode_f k hk _ (capBytes_bytes h.ok) (capBytes_length p o r c)]
  have b6p := be_length p 6
  have b3 := be_length o 3
  have b6c := be_length c 6
  have e1 : ((capBytes p o r c).drop 0).take 6 = be 6 p := by
    unfold capBytes
    rw [List.drop_zero, List.append_assoc, List.append_assoc, List.take_append_of_le_length (by omega), List.take_of_length_le (by omega)]
  have e2 : ((capBytes p o r c).drop 6).take 3 = be 3 o := by
    unfold capBytes
    rw [List.append_assoc, List.append_assoc]
    rw [List.drop_left' b6p]
    rw [List.take_append_of_le_length (by omega), List.take_of_length_le (by omega)]
  have e3 : rd (capBytes p o r c) 9 = r := by
    unfold rd capBytes
    rw [List.getD_eq_getElem?_getD]
    simp [be_length]
  have e4 : ((capBytes p o r c).drop 10).take 6 = be 6 c := by
    unfold capBytes
    rw [List.drop_left' (show (be 6 p ++ be 3 o ++ [r]).length = 10 by simp [be_length])]
    rw [List.take_of_length_le (by omega)]
  have q6 : (256 : Int) ^ 6 = 281474976710656 := by decide
  have q3 : (256 : Int) ^ 3 = 16777216 := by decide
  rw [e1, e2, e3, e4, num_be 6 p hp0, num_be 3 o ho0, num_be 6 c hc0, q6, q3, Int.emod_eq_of_lt hp0 hp1, Int.emod_eq_of_lt ho0 ho1, Int.emod_eq_of_lt hc0 hc1]
/-- what is read of sixteen bytes may be, and has these bytes -/
theorem read_may (l : List Int) (hb : Bytes8 l) (hl : l.length = 16) : CapMay (num ((l.drop 0).take 6)) (num ((l.drop 6).take 3)) (rd l 9) (num ((l.drop 10).take 6)) := by
  have g1 := num_bound ((l.drop 0).take 6) (bytes_take (bytes_drop hb _) _)
  have g2 := num_bound ((l.drop 6).take 3) (bytes_take (bytes_drop hb _) _)
  have g3 := num_bound ((l.drop 10).take 6) (bytes_take (bytes_drop hb _) _)
  rw [show ((l.drop 0).take 6).length = 6 by simp; omega] at g1
  rw [show ((l.drop 6).take 3).length = 3 by simp; omega] at g2
  rw [show ((l.drop 10).take 6).length = 6 by simp; omega] at g3
  have h9 : rd l 9 = l[9]'(by omega) := rd_nat l 9 (by omega)
  have hr := hb (l[9]'(by omega)) (List.getElem_mem _)
  exact ⟨g1.1, by have := g1.2; omega, g2.1, by have := g2.2; omega, by rw [h9]; exact hr.1, by rw [h9]; exact hr.2, g3.1, by have := g3.2; omega⟩
theorem split16 (l : List Int) (hl : l.length = 16) : (l.drop 0).take 6 ++ (l.drop 6).take 3 ++ [l[9]'(by omega)] ++ (l.drop 10).take 6 = l := by
  match l, hl with
  | [a0, a1, a2, a3, a4, a5, a6, a7, a8, a9, a10, a11, a12, a13, a14, a15], _ => rfl
theorem read_bytes (l : List Int) (hb : Bytes8 l) (hl : l.length = 16) : capBytes (num ((l.drop 0).take 6)) (num ((l.drop 6).take 3)) (rd l 9) (num ((l.drop 10).take 6)) = l := by
  have h9 : rd l 9 = l[9]'(by omega) := rd_nat l 9 (by omega)
  unfold capBytes
  have n1 : ((l.drop 0).take 6).length = 6 := by simp; omega
  have n2 : ((l.drop 6).take 3).length = 3 := by simp; omega
  have n3 : ((l.drop 10).take 6).length = 6 := by simp; omega
  have e1 : be 6 (num ((l.drop 0).take 6)) = (l.drop 0).take 6 := by
    have := be_num ((l.drop 0).take 6) (bytes_take (bytes_drop hb _) _)
    rw [n1] at this
    exact this
  have e2 : be 3 (num ((l.drop 6).take 3)) = (l.drop 6).take 3 := by
    have := be_num ((l.drop 6).take 3) (bytes_take (bytes_drop hb _) _)
    rw [n2] at this
    exact this
  have e3 : be 6 (num ((l.drop 10).take 6)) = (l.drop 10).take 6 := by
    have := be_num ((l.drop 10).take 6) (bytes_take (bytes_drop hb _) _)
    rw [n3] at this
    exact this
  rw [e1, e2, e3, h9]
  exact split16 l hl
theorem caps_inj {p o r c p' o' r' c' : Int} (h : CapMay p o r c) (h' : CapMay p' o' r' c') (e : capBytes p o r c = capBytes p' o' r' c') : p = p' ∧ o = o' ∧ r = r' ∧ c = c' := by
  have d1 := Decode_bytes 12 (by omega) h
  have d2 := Decode_bytes 12 (by omega) h'
  rw [e, d2] at d1
  simp only [Option.some.injEq, Prod.mk.injEq] at d1
  exact ⟨d1.1.symm, d1.2.1.symm, d1.2.2.1.symm, d1.2.2.2.1.symm⟩
end Go.Proofs.Ytjahdmjmdiepbaa.M
