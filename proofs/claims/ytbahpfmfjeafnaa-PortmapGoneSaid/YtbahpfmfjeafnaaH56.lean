/- Places that were learnt one behind the other: what Learn and Find make of them. -/
import Derived.Test.YtbahpfmfjeafnaaH10
import Derived.Test.YtbahpfmfjeafnaaH11
namespace Go.Proofs.Ytbahpfmfjeafnaa.PA
open Go.RowKit Go.Proofs.YtbahpfmfjeafnaaW.PrintWords Go.Proofs.YtbahpfmfjeafnaaW.PrintLast Go.Proofs.YtbahpfmfjeafnaaW.PrintMore
set_option linter.unusedVariables false
set_option linter.unusedSimpArgs false
/-- the ports a, a+1, .. at the nodes that node says -/
def places (node : Nat → Int) (a m : Nat) : List S53 := (List.range' a m).map fun (i : Nat) => (⟨(i : Int), node i, (i : Int)⟩ : S53)
theorem places_len (node : Nat → Int) (a m : Nat) : (places node a m).length = m := by simp [places]
theorem places_succ (node : Nat → Int) (a m : Nat) : places node a (m + 1) = ⟨(a : Int), node a, (a : Int)⟩ :: places node (a + 1) m := by simp [places, List.range'_succ]
theorem places_end (node : Nat → Int) (a m : Nat) : places node a (m + 1) = places node a m ++ [⟨((a + m : Nat) : Int), node (a + m), ((a + m : Nat) : Int)⟩] := by
  simp [places, List.range'_concat]
theorem places_keep (node : Nat → Int) (a m k : Nat) (h : a + m ≤ k) : (places node a m).filter (fun x => x.f0 != (k : Int)) = places node a m := by
  rw [List.filter_eq_self]
  intro x hx
  simp only [places, List.mem_map, List.mem_range'] at hx
  obtain ⟨i, ⟨j, hj, rfl⟩, rfl⟩ := hx
  simp only [bne_iff_ne, ne_eq]
  omega
theorem places_learn (node : Nat → Int) (k : Nat) : learnt (k : Int) (node k) (k : Int) (places node (k - 16) (min k 16)) = places node (k + 1 - 16) (min (k + 1) 16) := by
  unfold learnt
  rw [places_keep node _ _ k (by omega)]
  simp only [places_len]
  by_cases h : k < 16
  · rw [if_neg (by omega)]
    obtain e1 : k - 16 = 0 := by omega
    obtain e2 : k + 1 - 16 = 0 := by omega
    obtain e3 : min k 16 = k := by omega
    obtain e4 : min (k + 1) 16 = k + 1 := by omega
    rw [e1, e2, e3, e4, places_end, Nat.zero_add]
  · rw [if_pos (by omega)]
    obtain e3 : min k 16 = 15 + 1 := by omega
    obtain e4 : min (k + 1) 16 = 15 + 1 := by omega
    obtain e2 : k + 1 - 16 = k - 16 + 1 := by omega
    have e5 : k - 16 + 1 + 15 = k := by omega
    rw [e3, e4, e2, places_succ, places_end node (k - 16 + 1) 15, e5]
    rfl
theorem findIn_places (node : Nat → Int) (q : S53 → Bool) (p now : Nat) (age : Int) (hn : now ≤ 1000) (ha : (now : Int) < age) : ∀ m a, a + m ≤ now + 1 →
    findIn (p : Int) (now : Int) age ((places node a m).filter q) = if a ≤ p ∧ p < a + m ∧ q ⟨(p : Int), node p, (p : Int)⟩ = true then (node p, true) else (0, false)
  | 0, a, h => by
    rw [if_neg (by omega)]
    rfl
  | m + 1, a, h => by
    have ih := findIn_places node q p now age hn ha m (a + 1) (by omega)
    rw [places_succ]
    have hw : wrap64 ((now : Int) - (a : Int)) = (now : Int) - (a : Int) := by unfold wrap64; omega
    by_cases hq : q ⟨(a : Int), node a, (a : Int)⟩ = true
    · rw [List.filter_cons_of_pos hq, findIn]
      by_cases hp : p = a
      · subst hp
        rw [if_pos, if_pos ⟨Nat.le_refl _, by omega, hq⟩]
        unfold hits
        simp only [hw, beq_self_eq_true, Bool.true_and, Bool.and_eq_true, decide_eq_true_eq]
        omega
      · rw [if_neg, ih]
        · by_cases hc : a + 1 ≤ p ∧ p < a + 1 + m ∧ q ⟨(p : Int), node p, (p : Int)⟩ = true
          · rw [if_pos hc, if_pos ⟨by omega, by omega, hc.2.2⟩]
          · rw [if_neg hc, if_neg]
            intro hd
            exact hc ⟨by omega, by omega, hd.2.2⟩
        · unfold hits
          simp only [Bool.and_eq_true, beq_iff_eq, not_and]
          intro h'
          omega
    · rw [List.filter_cons_of_neg hq, ih]
      by_cases hc : a + 1 ≤ p ∧ p < a + 1 + m ∧ q ⟨(p : Int), node p, (p : Int)⟩ = true
      · rw [if_pos hc, if_pos ⟨by omega, by omega, hc.2.2⟩]
      · rw [if_neg hc, if_neg]
        intro hd
        by_cases hp : p = a
        · subst hp
          exact hq hd.2.2
        · exact hc ⟨by omega, by omega, hd.2.2⟩
theorem findIn_all (node : Nat → Int) (p now : Nat) (age : Int) (hn : now ≤ 1000) (ha : (now : Int) < age) (m a : Nat) (h : a + m ≤ now + 1) :
    findIn (p : Int) (now : Int) age (places node a m) = if a ≤ p ∧ p < a + m then (node p, true) else (0, false) := by
  have := findIn_places node (fun _ => true) p now age hn ha m a h
  rw [List.filter_eq_self.2 (fun _ _ => rfl)] at this
  simpa using this
end Go.Proofs.Ytbahpfmfjeafnaa.PA
