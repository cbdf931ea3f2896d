/- The plain law of CapsRights: which rights a capability has is what its bits say. -/
import Derived.Test.YtjahdmjmdiepbaaM2
import Derived.Test.YtjahdmjmdiepbaaF4
import Derived.Laws.BitsAllLaws
namespace Go.Proofs.Ytjahdmjmdiepbaa.Pure
open Go Go.RowKit Go.Proofs.Ytjahdmjmdiepbaa.PA Go.Proofs.Ytjahdmjmdiepbaa.M Go.Proofs.YtjahdmjmdiepbaaW.PrintWords Go.Proofs.YtjahdmjmdiepbaaW.PrintLast Go.Proofs.YtjahdmjmdiepbaaW.PrintMore
/-- each of the last d bits of w is one of r -/
def sub : Nat → Nat → Nat → Bool
  | 0, _, _ => true
  | d + 1, r, w => (!(w % 2 == 1) || r % 2 == 1) && sub d (r / 2) (w / 2)
theorem sub_iff : ∀ (d r w : Nat), sub d r w = true ↔ ∀ i, i < d → w.testBit i = true → r.testBit i = true
  | 0, r, w => by simp [sub]
  | d + 1, r, w => by
    have ih := sub_iff d (r / 2) (w / 2)
    simp only [sub, Bool.and_eq_true, Bool.or_eq_true, Bool.not_eq_true', beq_eq_false_iff_ne, beq_iff_eq, ih]
    constructor
    · rintro ⟨h0, h1⟩ i hi hw
      cases i with
      | zero =>
        simp only [Nat.testBit_zero, decide_eq_true_eq] at hw ⊢
        omega
      | succ i =>
        rw [Nat.testBit_succ] at hw ⊢
        exact h1 i (by omega) hw
    · intro h
      constructor
      · have := h 0 (by omega)
        simp only [Nat.testBit_zero, decide_eq_true_eq] at this
        omega
      · intro i hi hw
        have := h (i + 1) (by omega)
        rw [Nat.testBit_succ, Nat.testBit_succ] at this
        exact this hw
theorem and_sub (r w : Nat) (hw : w < 256) : (r &&& w == w) = sub 8 r w := by
  rw [Bool.eq_iff_iff, sub_iff, beq_iff_eq]
  constructor
  · intro h i _ hwi
    have := congrArg (fun x => x.testBit i) h
    simp only [Nat.testBit_and] at this
    rw [hwi, Bool.and_true] at this
    exact this
  · intro h
    refine Nat.eq_of_testBit_eq (fun i => ?_)
    rw [Nat.testBit_and]
    by_cases hi : i < 8
    · cases hwi : w.testBit i with
      | true => rw [h i hi hwi]; rfl
      | false => simp
    · have : w.testBit i = false := Nat.testBit_lt_two_pow (Nat.lt_of_lt_of_le hw (show 2 ^ 8 ≤ 2 ^ i from Nat.pow_le_pow_right (by decide) (by omega)))
      rw [this, Bool.and_false]
theorem has_f (p o c : Int) (r w : Nat) (hr : r < 256) (hw : w < 256) : caps_Has.f p o (r : Int) c (w : Int) = some (r &&& w == w) := by
  unfold caps_Has.f
  rw [u8_and_nat r w hr hw]
  congr 1
  rw [Bool.eq_iff_iff, beq_iff_eq, beq_iff_eq]
  exact Int.ofNat_inj
theorem half_mod (n : Nat) : Int.tmod (n : Int) 2 = ((n % 2 : Nat) : Int) := by rw [Int.tmod_eq_emod_of_nonneg (by omega)]; omega
theorem half_div (n : Nat) (h : n < 256) : Int.tdiv (n : Int) 2 % 256 = ((n / 2 : Nat) : Int) := by rw [Int.tdiv_eq_ediv_of_nonneg (by omega)]; omega
theorem next_nat (j : Nat) (h : j < 100) : wrap64 ((j : Int) + 1) = ((j + 1 : Nat) : Int) := by rw [wrap64_in' _ (by omega)]; omega
theorem rights_l0 (p o c : Int) (r w : Nat) (hr : r < 256) (hw : w < 256) : ∀ (d k rr ww j : Nat) (x5 : Bool), rr < 256 → ww < 256 → j + d = 8 → d < k → (r &&& w == w) = (x5 && sub d rr ww) →
    sigillumlaw03_CapsRights.l0 k (w : Int) x5 (rr : Int) (ww : Int) (j : Int) p o (r : Int) c = some true := by
  intro d
  induction d with
  | zero =>
    intro k rr ww j x5 hrr hww hj hk hx
    obtain ⟨k, rfl⟩ : ∃ m, k = m + 1 := ⟨k - 1, by clear hx; omega⟩
    simp only [sigillumlaw03_CapsRights.l0]
    rw [if_neg (by clear hx; omega), has_f p o c r w hr hw]
    simp only [Option.bind_some]
    rw [hx]
    have h0 := has_f p o c r 0 hr (by decide)
    have h255 := has_f p o c r 255 hr (by decide)
    have e0 : (r &&& 0 == 0) = true := by simp
    have e255 : (r &&& 255 == 255) = (r == 255) := by
      have : r &&& 255 = r := by
        have := Nat.and_two_pow_sub_one_eq_mod r 8
        rw [show 2 ^ 8 - 1 = 255 from rfl] at this
        rw [this]
        exact Nat.mod_eq_of_lt hr
      rw [this]
    have eI : ((r : Int) == 255) = (r == 255) := by
      rw [Bool.eq_iff_iff]
      simp
      omega
    have h0' : caps_Has.f p o (r : Int) c 0 = some true := by rw [← e0]; exact h0
    have h255' : caps_Has.f p o (r : Int) c 255 = some (r == 255) := by rw [← e255]; exact h255
    rw [h0', h255']
    simp [sub, caps_Owns.f, eI]
  | succ d ih =>
    intro k rr ww j x5 hrr hww hj hk hx
    obtain ⟨k, rfl⟩ : ∃ m, k = m + 1 := ⟨k - 1, by clear hx; omega⟩
    simp only [sigillumlaw03_CapsRights.l0]
    rw [if_pos (show (j : Int) < 8 by clear hx; omega), half_mod ww, half_mod rr, half_div ww hww, half_div rr hrr, next_nat j (by clear hx; omega)]
    have hr2 : rr / 2 < 256 := by clear hx; omega
    have hw2 : ww / 2 < 256 := by clear hx; omega
    have hj2 : j + 1 + d = 8 := by clear hx; omega
    have hk2 : d < k := by clear hx; omega
    by_cases c1 : ww % 2 = 1
    · rw [if_pos (by rw [c1]; rfl)]
      by_cases c2 : rr % 2 = 0
      · rw [if_pos (by rw [c2]; rfl)]
        refine ih k (rr / 2) (ww / 2) (j + 1) false hr2 hw2 hj2 hk2 ?_
        rw [hx]
        have : (rr % 2 == 1) = false := beq_eq_false_iff_ne.mpr (by clear hx; omega)
        simp [sub, c1, this]
      · rw [if_neg (by clear hx; omega)]
        refine ih k (rr / 2) (ww / 2) (j + 1) x5 hr2 hw2 hj2 hk2 ?_
        rw [hx]
        have : (rr % 2 == 1) = true := beq_iff_eq.mpr (by clear hx; omega)
        simp [sub, this]
    · rw [if_neg (by clear hx; omega)]
      refine ih k (rr / 2) (ww / 2) (j + 1) x5 hr2 hw2 hj2 hk2 ?_
      rw [hx]
      have : (ww % 2 == 1) = false := beq_eq_false_iff_ne.mpr c1
      simp [sub, this]
theorem CapsRights {p o r c : Int} (h : CapOk p o r c) (w : Int) (h0 : 0 ≤ w) (h1 : w < 256) : sigillumlaw03_CapsRights.f 20 p o r c w = some true := by
  have hr0 := h.r0
  have hr1 := h.r1
  obtain ⟨r, rfl⟩ := Int.eq_ofNat_of_zero_le hr0
  obtain ⟨w, rfl⟩ := Int.eq_ofNat_of_zero_le h0
  unfold sigillumlaw03_CapsRights.f
  rw [awake_k 20 (by omega)]
  simp only [Option.bind_some, if_true]
  have := rights_l0 p o c r w (by omega) (by omega) 8 20 r w 0 true (by omega) (by omega) (by omega) (by omega) (by rw [and_sub r w (by omega)]; rfl)
  simpa using this
end Go.Proofs.Ytjahdmjmdiepbaa.Pure
namespace Go.Proofs.Ytjahdmjmdiepbaa.Pure
open Go Go.RowKit Go.Proofs.Ytjahdmjmdiepbaa.PA Go.Proofs.Ytjahdmjmdiepbaa.M Go.Proofs.YtjahdmjmdiepbaaW.PrintWords Go.Proofs.YtjahdmjmdiepbaaW.PrintLast Go.Proofs.YtjahdmjmdiepbaaW.PrintMore
/-- The law's call. -/
theorem CapsRightsWalk (p o r c a : Int) (w : World) (h : CapOk p o r c) (ha : (Lit.int .u8 a).wf = true) : Calls Try.prog 4 #[.agg #[.int .u64 p, .int .u32 o, .int .u8 r, .int .u64 c], .int .u8 a] w fun e w' => e = .returned (.bool true) ∧ Below w.heap.size w w' := sigillumlaw03_CapsRights.calls 20 p o r c a true w (CapsRights h a (u8_of_wf ha).1 (u8_of_wf ha).2)
end Go.Proofs.Ytjahdmjmdiepbaa.Pure
