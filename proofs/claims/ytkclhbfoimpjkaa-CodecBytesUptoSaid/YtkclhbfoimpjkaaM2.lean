/- The numbers that bytes are, told plainly; what all laws of the codec use. -/
import Derived.Test.YtkclhbfoimpjkaaF9
import Derived.Test.YtkclhbfoimpjkaaF11
import Derived.Test.YtkclhbfoimpjkaaM1
namespace Go.Proofs.Ytkclhbfoimpjkaa.M
open Go Go.RowKit Go.Proofs.Ytkclhbfoimpjkaa.PA Go.Proofs.YtkclhbfoimpjkaaW.PrintWords Go.Proofs.YtkclhbfoimpjkaaW.PrintLast Go.Proofs.YtkclhbfoimpjkaaW.PrintMore
theorem awake_k (k : Nat) (hk : 12 ≤ k) : sigillumlaw02_awake.f k = some true := at_rounds (g := fun k => sigillumlaw02_awake.f k) sigillumlaw02_awake.mono hk awake_at
theorem plus_byte (a b : Int) (ha : 0 ≤ a) (ha' : a < 72057594037927936) (hb : 0 ≤ b) (hb' : b < 256) : IntKind.u64.wrap (IntKind.u64.wrap (a * 256) + IntKind.u64.wrap b) = a * 256 + b := by
  rw [u64_in (a * 256) (by omega) (by omega), u64_in b (by omega) (by omega), u64_in _ (by omega) (by omega)]
theorem number_l0 (xs : List Int) (hb : Bytes8 xs) (hx : xs.length ≤ 8) : ∀ (d k i : Nat), i ≤ xs.length → xs.length - i = d → d < k → sigillumlaw02_number.l0 k xs (num (xs.take i)) (i : Int) = some (num xs) := by
  intro d
  induction d with
  | zero =>
    intro k i hi hd hk
    obtain ⟨k, rfl⟩ : ∃ m, k = m + 1 := ⟨k - 1, by omega⟩
    simp only [sigillumlaw02_number.l0]
    rw [if_neg (by omega), List.take_of_length_le (by omega)]
  | succ d ih =>
    intro k i hi hd hk
    obtain ⟨k, rfl⟩ : ∃ m, k = m + 1 := ⟨k - 1, by omega⟩
    have hlt : i < xs.length := by omega
    have hr := hb xs[i] (List.getElem_mem hlt)
    have ha := acc_bound xs hb i (by omega)
    simp only [sigillumlaw02_number.l0]
    rw [if_pos (by omega), if_pos (by omega), rd_nat xs i hlt, plus_byte _ _ ha.1 ha.2 hr.1 hr.2, ← num_snoc, ← take_snoc xs i hlt, wrap64_in' _ (by omega)]
    exact ih k (i + 1) (by omega) (by omega) (by omega)
theorem number_f (k : Nat) (xs : List Int) (hb : Bytes8 xs) (hx : xs.length ≤ 8) (hk : 12 ≤ k) : sigillumlaw02_number.f k xs = some (num xs) := by
  have := number_l0 xs hb hx xs.length k 0 (by omega) (by omega) (by omega)
  simpa [num, sigillumlaw02_number.f] using this
theorem shl_one (n : Nat) (h : n ≤ 7) : shl .u64 1 (8 * (n : Int)) = 256 ^ n := by
  have key : ∀ j : Fin 8, shl .u64 1 (8 * (j.val : Int)) = 256 ^ j.val := by decide
  exact key ⟨n, by omega⟩
end Go.Proofs.Ytkclhbfoimpjkaa.M
