/- The plain law of CodecBytes, where the three slices hold together at most 1048576 bytes: bytes with their length are read as they were, and the place behind them; too many are not laid. -/
import Derived.Test.YtkclhbfoimpjkaaF5
import Derived.Test.YtkclhbfoimpjkaaM2
namespace Go.Proofs.Ytkclhbfoimpjkaa.Pure
open Go Go.RowKit Go.Proofs.Ytkclhbfoimpjkaa.PA Go.Proofs.Ytkclhbfoimpjkaa.M Go.Proofs.YtkclhbfoimpjkaaW.PrintWords Go.Proofs.YtkclhbfoimpjkaaW.PrintLast Go.Proofs.YtkclhbfoimpjkaaW.PrintMore
/-- GetBytes, where the length is there and what it says is there. -/
theorem getBytes_yes (k : Nat) (hk : 12 ≤ k) (l : List Int) (hb : Bytes8 l) (hl : (l.length : Int) ≤ 1073741824) (p : Nat) (hp : p + 2 ≤ l.length) (hn : (num ((l.drop p).take 2)).toNat + p + 2 ≤ l.length) :
    codec_GetBytes.f k l (p : Int) = some (((l.drop (p + 2)).take (num ((l.drop p).take 2)).toNat), ((p + 2 + (num ((l.drop p).take 2)).toNat : Nat) : Int), true) := by
  unfold codec_GetBytes.f
  rw [get_f k l p 2 hb hk (by omega) (by omega) (by omega) (by omega) (by omega)]
  simp only [Option.bind_some, if_true, Int.toNat_natCast]
  obtain ⟨h0, _⟩ := num_bound ((l.drop p).take 2) (bytes_take (bytes_drop hb _) _)
  have e2 : (2 : Int).toNat = 2 := rfl
  rw [e2]
  generalize num ((l.drop p).take 2) = c at *
  obtain ⟨m, rfl⟩ := Int.eq_ofNat_of_zero_le h0
  rw [Int.toNat_natCast] at hn ⊢
  rw [wrap64_in' (m : Int) (by omega), wrap64_in' ((l.length : Int) - p) (by omega), wrap64_in' _ (by omega), if_neg (by omega), wrap64_in' ((p : Int) + 2) (by omega), wrap64_in' ((p : Int) + 2 + m) (by omega), if_pos (by omega), if_pos (by omega), if_pos (by omega)]
  have e3 : ((p : Int) + 2 + m).toNat = p + 2 + m := by omega
  have e4 : ((p : Int) + 2).toNat = p + 2 := by omega
  rw [e3, e4, List.drop_take]
  have e5 : p + 2 + m - (p + 2) = m := by omega
  rw [e5, if_pos (by simp; omega)]
  simp
/-- GetBytes, where they are not all there. -/
theorem getBytes_no (k : Nat) (hk : 12 ≤ k) (l : List Int) (hb : Bytes8 l) (hl : (l.length : Int) ≤ 1073741824) (p : Int) (h : p < 0 ∨ (l.length : Int) - 2 < p ∨ (0 ≤ p ∧ p + 2 ≤ l.length ∧ (l.length : Int) - p - 2 < num ((l.drop p.toNat).take 2))) :
    codec_GetBytes.f k l p = some ([], 0, false) := by
  unfold codec_GetBytes.f
  by_cases hin : 0 ≤ p ∧ p + 2 ≤ l.length
  · rw [get_f k l p 2 hb hk (by omega) (by omega) hin.1 hin.2 (by omega)]
    have e2 : (2 : Int).toNat = 2 := rfl
    have hlen : ((l.drop p.toNat).take 2).length = 2 := by simp; omega
    obtain ⟨h0, h1⟩ := num_bound ((l.drop p.toNat).take 2) (bytes_take (bytes_drop hb _) _)
    rw [hlen] at h1
    simp only [Option.bind_some, if_true, e2]
    rw [wrap64_in' (num _) (by omega), wrap64_in' ((l.length : Int) - p) (by omega), wrap64_in' _ (by omega), if_pos (by omega)]
  · rw [get_no k l p 2 hk (by omega) (by omega)]
    simp
theorem bytes_append {xs ys : List Int} (h1 : Bytes8 xs) (h2 : Bytes8 ys) : Bytes8 (xs ++ ys) := fun x hx => by
  rcases List.mem_append.1 hx with h | h
  · exact h1 x h
  · exact h2 x h
/-- what the law asks of GetBytes at a place of the first slice -/
theorem bytes_j0 (l : List Int) (hb : Bytes8 l) (hl : (l.length : Int) ≤ 1073741824) (p : Int) (hp : -9223372036854775808 ≤ p ∧ p ≤ 9223372036854775807) (k : Nat) (hk : 12 ≤ k) : sigillumlaw02_CodecBytes.j0 (k + 1) l p false = some true := by
  simp only [sigillumlaw02_CodecBytes.j0]
  rw [if_neg (by simp)]
  by_cases hin : 0 ≤ p ∧ p + 2 ≤ l.length
  · obtain ⟨q, rfl⟩ := Int.eq_ofNat_of_zero_le hin.1
    have ecut : (l.take (((q : Int) + 2) : Int).toNat).drop (q : Int).toNat = (l.drop q).take 2 := by
      rw [List.drop_take]
      have e3 : ((q : Int) + 2).toNat - (q : Int).toNat = 2 := by omega
      rw [e3, Int.toNat_natCast]
    have hlen : ((l.drop q).take 2).length = 2 := by simp; omega
    have h2b : Bytes8 ((l.drop q).take 2) := bytes_take (bytes_drop hb _) _
    have hnum : sigillumlaw02_number.f k ((l.drop q).take 2) = some (num ((l.drop q).take 2)) := number_f k _ h2b (by omega) hk
    obtain ⟨h0, h1⟩ := num_bound _ h2b
    rw [hlen] at h1
    by_cases hn : (num ((l.drop q).take 2)).toNat + q + 2 ≤ l.length
    · rw [getBytes_yes k hk l hb hl q (by omega) hn]
      simp only [Option.bind_some]
      rw [if_neg (by omega), wrap64_in' ((l.length : Int) - 2) (by omega), if_neg (by omega), wrap64_in' ((q : Int) + 2) (by omega), if_pos (by omega), if_pos (by omega), if_pos (by omega), ecut, hnum]
      simp only [Option.bind_some]
      generalize num ((l.drop q).take 2) = c at *
      obtain ⟨m, rfl⟩ := Int.eq_ofNat_of_zero_le h0
      rw [Int.toNat_natCast] at hn ⊢
      rw [wrap64_in' (m : Int) (by omega), wrap64_in' ((l.length : Int) - q) (by omega), wrap64_in' _ (by omega), if_neg (by omega), wrap64_in' ((q : Int) + 2 + m) (by omega), if_pos trivial, if_pos (by omega), if_pos (by omega), if_pos (by omega), if_pos (by omega)]
      have e5 : (l.take (((q : Int) + 2 + m) : Int).toNat).drop ((q : Int) + 2).toNat = (l.drop (q + 2)).take m := by
        rw [List.drop_take]
        have e3 : ((q : Int) + 2 + m).toNat - ((q : Int) + 2).toNat = m := by omega
        have e4 : ((q : Int) + 2).toNat = q + 2 := by omega
        rw [e3, e4]
      rw [e5]
      simp
    · rw [getBytes_no k hk l hb hl q (by right; right; rw [Int.toNat_natCast]; omega)]
      simp only [Option.bind_some]
      rw [if_neg (by omega), wrap64_in' ((l.length : Int) - 2) (by omega), if_neg (by omega), wrap64_in' ((q : Int) + 2) (by omega), if_pos (by omega), if_pos (by omega), if_pos (by omega), ecut, hnum]
      simp only [Option.bind_some]
      rw [wrap64_in' (num _) (by omega), wrap64_in' ((l.length : Int) - q) (by omega), wrap64_in' _ (by omega), if_pos (by omega)]
      simp
  · rw [getBytes_no k hk l hb hl p (by omega)]
    simp only [Option.bind_some]
    by_cases h0 : p < 0
    · rw [if_pos h0]
      simp
    · rw [if_neg h0, wrap64_in' ((l.length : Int) - 2) (by omega), if_pos (by omega)]
      simp
theorem CodecBytesUpto (b s more : List Int) (p : Int) (hlen : b.length + s.length + more.length ≤ 1048576) (hb : ∀ x ∈ b, (Lit.int .u8 x).wf = true) (hs : ∀ x ∈ s, (Lit.int .u8 x).wf = true) (hm : ∀ x ∈ more, (Lit.int .u8 x).wf = true) (hp : (Lit.int .i64 p).wf = true) :
    ∃ k, sigillumlaw02_CodecBytes.f k b s more p = some true := by
  have hb8 := bytes_of_wf hb
  have hs8 := bytes_of_wf hs
  have hm8 := bytes_of_wf hm
  have hp' := i64_of_wf hp
  refine ⟨20, ?_⟩
  unfold sigillumlaw02_CodecBytes.f
  rw [awake_k 20 (by omega)]
  simp only [Option.bind_some, if_true]
  by_cases hbig : (s.length : Int) > 65535
  · have hput : codec_PutBytes.f 20 b s = some ([], false) := by
      unfold codec_PutBytes.f
      rw [if_pos hbig]
    rw [hput]
    simp only [Option.bind_some]
    rw [if_pos hbig]
    simp
  · have htail : tail 2 (s.length : Int) = be 2 (s.length : Int) := rfl
    have hput : codec_PutBytes.f 20 b s = some (b ++ be 2 (s.length : Int) ++ s, true) := by
      unfold codec_PutBytes.f
      rw [if_neg hbig, u64_in _ (by omega) (by omega), put_f 20 b _ 2 (by omega) (by omega), htail]
      simp only [Option.bind_some]
      rw [if_pos (by simp [be_length]; omega)]
    rw [hput]
    simp only [Option.bind_some]
    rw [if_neg hbig]
    have hout : (b ++ be 2 (s.length : Int) ++ s).length = b.length + 2 + s.length := by simp [be_length]; omega
    have hob : Bytes8 (b ++ be 2 (s.length : Int) ++ s) := bytes_append (bytes_append hb8 (be_bytes _ _)) hs8
    rw [if_pos (show ([] : List Int).length + (b ++ be 2 (s.length : Int) ++ s).length < 140737488355328 by rw [hout, List.length_nil]; omega)]
    simp only [List.nil_append]
    rw [if_pos (by rw [hout]; omega)]
    have hal : (b ++ be 2 (s.length : Int) ++ s ++ more).length = b.length + 2 + s.length + more.length := by simp [be_length]; omega
    have hab : Bytes8 (b ++ be 2 (s.length : Int) ++ s ++ more) := bytes_append hob hm8
    have hd2 : ((b ++ be 2 (s.length : Int) ++ s ++ more).drop b.length).take 2 = be 2 (s.length : Int) := by
      rw [List.append_assoc, List.append_assoc, List.drop_left]
      have : (be 2 (s.length : Int)).length = 2 := be_length _ _
      rw [List.take_append_of_le_length (by omega), List.take_of_length_le (by omega)]
    have hnum : num (((b ++ be 2 (s.length : Int) ++ s ++ more).drop b.length).take 2) = (s.length : Int) := by
      rw [hd2, num_be 2 _ (by omega), Int.emod_eq_of_lt (by omega) (by omega)]
    have hget : codec_GetBytes.f 20 (b ++ be 2 (s.length : Int) ++ s ++ more) (b.length : Int) = some (s, ((b.length + 2 + s.length : Nat) : Int), true) := by
      rw [getBytes_yes 20 (by omega) _ hab (by rw [hal]; omega) b.length (by rw [hal]; omega) (by rw [hnum, hal]; omega), hnum, Int.toNat_natCast]
      have e6 : ((b ++ be 2 (s.length : Int) ++ s ++ more).drop (b.length + 2)).take s.length = s := by
        have e7 : b.length + 2 = (b ++ be 2 (s.length : Int)).length := by simp [be_length]
        rw [e7, List.append_assoc (b ++ be 2 (s.length : Int)), List.drop_left, List.take_left]
      rw [e6]
    rw [hget]
    simp only [Option.bind_some]
    rw [if_pos trivial, if_pos trivial, if_pos trivial, hout, if_pos (by omega), if_pos (by omega), if_pos (by omega)]
    have htk : (b ++ be 2 (s.length : Int) ++ s).take ((b.length : Int) : Int).toNat = b := by
      rw [Int.toNat_natCast, List.append_assoc, List.take_left]
    rw [htk]
    have hne : ((strOfNums b).toList != (strOfNums b).toList) = false := by simp
    rw [hne]
    exact bytes_j0 b hb8 (by omega) p hp' 19 (by omega)
end Go.Proofs.Ytkclhbfoimpjkaa.Pure
namespace Go.Proofs.Ytkclhbfoimpjkaa.Pure
open Go Go.RowKit Go.Proofs.Ytkclhbfoimpjkaa.PA Go.Proofs.Ytkclhbfoimpjkaa.M Go.Proofs.YtkclhbfoimpjkaaW.PrintWords Go.Proofs.YtkclhbfoimpjkaaW.PrintLast Go.Proofs.YtkclhbfoimpjkaaW.PrintMore
/-- The law's call, where the three slices hold together at most 1048576 bytes. -/
theorem CodecBytesWalk (a0 : Option Addr) (len0 cap0 : Nat) (z0 : List Int) (a1 : Option Addr) (len1 cap1 : Nat) (z1 : List Int) (a2 : Option Addr) (len2 cap2 : Nat) (z2 : List Int) (a3 : Int) (w : World)
    (w0 : (a0 = none ∧ len0 = 0 ∧ cap0 = 0 ∧ z0 = []) ∨ ∃ x, a0 = some x ∧ len0 ≤ cap0 ∧ cap0 ≤ maxLen ∧ z0.length = cap0 ∧ (∀ i, i < z0.length → w.cell? (x.add i) = some (.int .u8 (z0.getD i 0))) ∧ ∀ n ∈ z0, (Lit.int .u8 n).wf = true) (_y0 : len0 * 1 ≤ 140737488351232)
    (w1 : (a1 = none ∧ len1 = 0 ∧ cap1 = 0 ∧ z1 = []) ∨ ∃ x, a1 = some x ∧ len1 ≤ cap1 ∧ cap1 ≤ maxLen ∧ z1.length = cap1 ∧ (∀ i, i < z1.length → w.cell? (x.add i) = some (.int .u8 (z1.getD i 0))) ∧ ∀ n ∈ z1, (Lit.int .u8 n).wf = true) (_y1 : len1 * 1 ≤ 140737488351232)
    (w2 : (a2 = none ∧ len2 = 0 ∧ cap2 = 0 ∧ z2 = []) ∨ ∃ x, a2 = some x ∧ len2 ≤ cap2 ∧ cap2 ≤ maxLen ∧ z2.length = cap2 ∧ (∀ i, i < z2.length → w.cell? (x.add i) = some (.int .u8 (z2.getD i 0))) ∧ ∀ n ∈ z2, (Lit.int .u8 n).wf = true) (_y2 : len2 * 1 ≤ 140737488351232)
    (w3 : (Lit.int .i64 a3).wf = true) (hbulk : len0 + len1 + len2 ≤ 1048576) :
    Calls Try.prog 5 #[.slice a0 len0 cap0, .slice a1 len1 cap1, .slice a2 len2 cap2, .int .i64 a3] w fun e w' => e = .returned (.bool true) ∧ Below w.heap.size w w' := by
  obtain ⟨l0, rfl, hr0, hm0, hw0, hc0⟩ := ReadsInt.ofRowC w0
  obtain ⟨l1, rfl, hr1, hm1, hw1, hc1⟩ := ReadsInt.ofRowC w1
  obtain ⟨l2, rfl, hr2, hm2, hw2, hc2⟩ := ReadsInt.ofRowC w2
  obtain ⟨k, h⟩ := CodecBytesUpto l0 l1 l2 a3 hbulk hw0 hw1 hw2 w3
  refine (sigillumlaw02_CodecBytes.calls k _ _ l0 _ _ l1 _ _ l2 a3 true w (Kd.C_of_reads (d := (0 : Int)) (h1 := fun _ => rfl) hr0) hc0 (Kd.C_of_reads (d := (0 : Int)) (h1 := fun _ => rfl) hr1) hc1 (Kd.C_of_reads (d := (0 : Int)) (h1 := fun _ => rfl) hr2) hc2 h).mono ?_
  rintro e w' ⟨rfl, hd⟩
  exact ⟨rfl, hd⟩
end Go.Proofs.Ytkclhbfoimpjkaa.Pure
