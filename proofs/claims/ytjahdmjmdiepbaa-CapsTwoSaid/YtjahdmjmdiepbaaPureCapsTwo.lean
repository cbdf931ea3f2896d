/- The plain law of CapsTwo: two capabilities that may be have the same bytes just if they are the same; a bit that is turned in the bytes makes another one. -/
import Derived.Test.YtjahdmjmdiepbaaM2
import Derived.Test.YtjahdmjmdiepbaaF6
import Derived.Laws.BitsAllLaws
namespace Go.Proofs.Ytjahdmjmdiepbaa.Pure
open Go Go.RowKit Go.Proofs.Ytjahdmjmdiepbaa.PA Go.Proofs.Ytjahdmjmdiepbaa.M Go.Proofs.YtjahdmjmdiepbaaW.PrintWords Go.Proofs.YtjahdmjmdiepbaaW.PrintLast Go.Proofs.YtjahdmjmdiepbaaW.PrintMore
theorem shl8 : ∀ j : Fin 8, shl .u8 1 (j.val : Int) = ((2 ^ j.val : Nat) : Int) := by decide
/-- a byte with a bit turned is a byte, and another one -/
theorem turned (x : Int) (h0 : 0 ≤ x) (h1 : x < 256) (j : Nat) (hj : j < 8) : (0 ≤ Go.bits .xor .u8 x (shl .u8 1 (j : Int)) ∧ Go.bits .xor .u8 x (shl .u8 1 (j : Int)) < 256) ∧ Go.bits .xor .u8 x (shl .u8 1 (j : Int)) ≠ x := by
  have hp : (2 : Nat) ^ j < 256 := by
    have : (2 : Nat) ^ j ≤ 2 ^ 7 := Nat.pow_le_pow_right (by decide) (by omega)
    omega
  obtain ⟨n, rfl⟩ := Int.eq_ofNat_of_zero_le h0
  have e := shl8 ⟨j, hj⟩
  rw [e, u8_xor_nat n (2 ^ j) (by omega) hp]
  refine ⟨⟨by omega, ?_⟩, fun h => ?_⟩
  · have : n ^^^ 2 ^ j < 2 ^ 8 := Nat.xor_lt_two_pow (by omega) (by omega)
    omega
  · have h2 : n ^^^ 2 ^ j = n := by omega
    have h3 := congrArg (fun z => z.testBit j) h2
    simp only [Nat.testBit_xor, Nat.testBit_two_pow_self, Bool.xor_true] at h3
    cases hn : n.testBit j <;> simp [hn] at h3
theorem CapsTwo {p o r c p' o' r' c' : Int} (h : CapOk p o r c) (h' : CapOk p' o' r' c') (bit : Int) (h0 : 0 ≤ bit) : sigillumlaw03_CapsTwo.f 20 p o r c p' o' r' c' bit = some true := by
  have hc := cut_may h
  have hc' := cut_may h'
  unfold sigillumlaw03_CapsTwo.f
  rw [awake_k 20 (by omega), make_f h, make_f h']
  simp only [Option.bind_some, if_true]
  generalize p % 281474976710656 = p at *
  generalize o % 16777216 = o at *
  generalize c % 281474976710656 = c at *
  generalize p' % 281474976710656 = p' at *
  generalize o' % 16777216 = o' at *
  generalize c' % 281474976710656 = c' at *
  rw [Encode_f 20 (by omega) hc, Encode_f 20 (by omega) hc']
  simp only [Option.bind_some]
  obtain ⟨i, hi⟩ := Int.eq_ofNat_of_zero_le (show 0 ≤ bit / 8 % 256 % 16 by omega)
  obtain ⟨j, hj⟩ := Int.eq_ofNat_of_zero_le (show 0 ≤ bit % 8 by omega)
  have hlen := capBytes_length p o r c
  have hi16 : i < 16 := by omega
  rw [Int.tdiv_eq_ediv_of_nonneg h0, Int.tmod_eq_emod_of_nonneg h0, hi, hj, hlen]
  rw [if_pos (by omega), if_pos (by omega), if_pos (by omega), if_pos (by omega), Int.toNat_natCast]
  have hlt : i < (capBytes p o r c).length := by omega
  rw [rd_nat _ i hlt]
  have hb := capBytes_bytes hc.ok
  have hx := hb _ (List.getElem_mem hlt)
  obtain ⟨hz, hne⟩ := turned ((capBytes p o r c)[i]) hx.1 hx.2 j (by omega)
  generalize hzz : Go.bits .xor .u8 ((capBytes p o r c)[i]) (shl .u8 1 (j : Int)) = z at hz hne
  have hsb : Bytes8 ((capBytes p o r c).set i z) := fun x hx => by
    rcases List.mem_or_eq_of_mem_set hx with h | h
    · exact hb x h
    · rw [h]; exact hz
  have hsl : ((capBytes p o r c).set i z).length = 16 := by rw [List.length_set]; exact hlen
  rw [Decode_f 20 (by omega) _ hsb hsl]
  have hread := read_bytes _ hsb hsl
  simp only [Option.bind_some, if_true]
  generalize num ((((capBytes p o r c).set i z).drop 0).take 6) = a at *
  generalize num ((((capBytes p o r c).set i z).drop 6).take 3) = b at *
  generalize rd ((capBytes p o r c).set i z) 9 = d at *
  generalize num ((((capBytes p o r c).set i z).drop 10).take 6) = e at *
  have hdiff : ¬ (a = p ∧ b = o ∧ d = r ∧ e = c) := by
    rintro ⟨rfl, rfl, rfl, rfl⟩
    have h2 := congrArg (fun l => l[i]?) hread
    simp only [List.getElem?_set_self hlt, List.getElem?_eq_getElem hlt, Option.some.injEq] at h2
    exact hne h2.symm
  rw [if_pos (by
    by_cases c1 : a = p
    · by_cases c2 : b = o
      · by_cases c3 : d = r
        · by_cases c4 : e = c
          · exact absurd ⟨c1, c2, c3, c4⟩ hdiff
          · simp [c4]
        · simp [c3]
      · simp [c2]
    · simp [c1])]
  congr 1
  by_cases hsame : p = p' ∧ o = o' ∧ r = r' ∧ c = c'
  · obtain ⟨rfl, rfl, rfl, rfl⟩ := hsame
    simp
  · have hns : (strOfNums (capBytes p o r c)).toList ≠ (strOfNums (capBytes p' o' r' c')).toList := fun hh => hsame (caps_inj hc hc' (strOf_inj _ _ hb (capBytes_bytes hc'.ok) hh))
    have e1 : ((strOfNums (capBytes p o r c)).toList == (strOfNums (capBytes p' o' r' c')).toList) = false := beq_eq_false_iff_ne.mpr hns
    have e2 : (p == p' && (o == o' && (r == r' && (c == c')))) = false := by
      rw [Bool.eq_false_iff]
      intro hh
      simp only [Bool.and_eq_true, beq_iff_eq] at hh
      exact hsame hh
    rw [e1, e2]
    rfl
end Go.Proofs.Ytjahdmjmdiepbaa.Pure
namespace Go.Proofs.Ytjahdmjmdiepbaa.Pure
open Go Go.RowKit Go.Proofs.Ytjahdmjmdiepbaa.PA Go.Proofs.Ytjahdmjmdiepbaa.M Go.Proofs.YtjahdmjmdiepbaaW.PrintWords Go.Proofs.YtjahdmjmdiepbaaW.PrintLast Go.Proofs.YtjahdmjmdiepbaaW.PrintMore
/-- The law's call. -/
theorem CapsTwoWalk (p o r c p' o' r' c' a : Int) (w : World) (h : CapOk p o r c) (h' : CapOk p' o' r' c') (ha : (Lit.int .u8 a).wf = true) : Calls Try.prog 6 #[.agg #[.int .u64 p, .int .u32 o, .int .u8 r, .int .u64 c], .agg #[.int .u64 p', .int .u32 o', .int .u8 r', .int .u64 c'], .int .u8 a] w fun e w' => e = .returned (.bool true) ∧ Below w.heap.size w w' := sigillumlaw03_CapsTwo.calls 20 p o r c p' o' r' c' a true w (CapsTwo h h' a (u8_of_wf ha).1) rfl
end Go.Proofs.Ytjahdmjmdiepbaa.Pure
