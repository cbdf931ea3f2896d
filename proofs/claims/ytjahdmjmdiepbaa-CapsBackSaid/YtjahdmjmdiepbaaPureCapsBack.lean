/- The plain law of CapsBack: a capability is read of its bytes; sixteen bytes are those of the capability that is read of them; others are none's. -/
import Derived.Test.YtjahdmjmdiepbaaM2
import Derived.Test.YtjahdmjmdiepbaaF5
namespace Go.Proofs.Ytjahdmjmdiepbaa.Pure
open Go Go.RowKit Go.Proofs.Ytjahdmjmdiepbaa.PA Go.Proofs.Ytjahdmjmdiepbaa.M Go.Proofs.YtjahdmjmdiepbaaW.PrintWords Go.Proofs.YtjahdmjmdiepbaaW.PrintLast Go.Proofs.YtjahdmjmdiepbaaW.PrintMore
theorem CapsBack {p o r c : Int} (h : CapOk p o r c) (l : List Int) (hb : Bytes8 l) : sigillumlaw03_CapsBack.f 20 p o r c l = some true := by
  unfold sigillumlaw03_CapsBack.f
  have hc := cut_may h
  rw [awake_k 20 (by omega), make_f h]
  simp only [Option.bind_some, if_true]
  rw [Bytes_f 20 (by omega) hc.ok]
  simp only [Option.bind_some]
  rw [Decode_bytes 20 (by omega) hc]
  simp only [Option.bind_some, if_true]
  have e0 : ¬ ((!(p % 281474976710656 == p % 281474976710656) || (!(o % 16777216 == o % 16777216) || (!(r == r) || !(c % 281474976710656 == c % 281474976710656)))) = true) := by simp
  simp only [if_neg e0]
  by_cases hl : l.length = 16
  · rw [Decode_f 20 (by omega) l hb hl]
    have hy := read_may l hb hl
    have hyb := read_bytes l hb hl
    simp only [Option.bind_some]
    have e : (true != ((l.length : Int) == 16)) = false := by rw [hl]; rfl
    rw [e]
    simp only [sigillumlaw03_CapsBack.j0]
    rw [if_neg (by simp), if_pos trivial, may_f hy.ok, (mayB_iff hy.ok).2 hy]
    simp only [Option.bind_some, if_true]
    rw [Bytes_f 19 (by omega) hy.ok, hyb]
    simp
  · rw [Decode_no 20 l hl]
    simp only [Option.bind_some]
    have e : (false != ((l.length : Int) == 16)) = false := by
      have : ((l.length : Int) == 16) = false := beq_eq_false_iff_ne.mpr (by omega)
      rw [this]
      rfl
    rw [e]
    simp [sigillumlaw03_CapsBack.j0]
end Go.Proofs.Ytjahdmjmdiepbaa.Pure
namespace Go.Proofs.Ytjahdmjmdiepbaa.Pure
open Go Go.RowKit Go.Proofs.Ytjahdmjmdiepbaa.PA Go.Proofs.Ytjahdmjmdiepbaa.M Go.Proofs.YtjahdmjmdiepbaaW.PrintWords Go.Proofs.YtjahdmjmdiepbaaW.PrintLast Go.Proofs.YtjahdmjmdiepbaaW.PrintMore
/-- The law's call. -/
theorem CapsBackWalk (p o r c : Int) (a1 : Option Addr) (len1 cap1 : Nat) (z1 : List Int) (w : World) (h : CapOk p o r c)
    (w1 : (a1 = none ∧ len1 = 0 ∧ cap1 = 0 ∧ z1 = []) ∨ ∃ x, a1 = some x ∧ len1 ≤ cap1 ∧ cap1 ≤ maxLen ∧ z1.length = cap1 ∧ (∀ i, i < z1.length → w.cell? (x.add i) = some (.int .u8 (z1.getD i 0))) ∧ ∀ n ∈ z1, (Lit.int .u8 n).wf = true) :
    Calls Try.prog 5 #[.agg #[.int .u64 p, .int .u32 o, .int .u8 r, .int .u64 c], .slice a1 len1 cap1] w fun e w' => e = .returned (.bool true) ∧ Below w.heap.size w w' := by
  obtain ⟨l1, rfl, hr1, hm1, hw1, hc1⟩ := ReadsInt.ofRowC w1
  refine (sigillumlaw03_CapsBack.calls 20 p o r c _ _ l1 true w (Kd.C_of_reads (d := (0 : Int)) (h1 := fun _ => rfl) hr1) hc1 (CapsBack h l1 (bytes_of_wf hw1))).mono ?_
  rintro e w' ⟨rfl, hd⟩
  exact ⟨rfl, hd⟩
end Go.Proofs.Ytjahdmjmdiepbaa.Pure
