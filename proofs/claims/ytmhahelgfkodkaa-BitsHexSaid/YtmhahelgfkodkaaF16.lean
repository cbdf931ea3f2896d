-- By a program of this session (after the form of the print; not a text of the print's own)
import Derived.Test.YtmhahelgfkodkaaF0
import Derived.Test.YtmhahelgfkodkaaF10
namespace Go.Proofs.Ytmhahelgfkodkaa.PA
open Go.RowKit Go.Proofs.YtmhahelgfkodkaaW.PrintWords Go.Proofs.YtmhahelgfkodkaaW.PrintLast Go.Proofs.YtmhahelgfkodkaaW.PrintMore
attribute [local go_sem] max2_int min2_int max_two min_two max_three min_three max_four min_four   -- for this text's walks alone
set_option linter.unusedVariables false
set_option linter.unusedSimpArgs false
/-! ### bits_Hex: function 16 -/
/-- a digit's letter -/
def dig (d : Int) : Int := if d < 10 then 48 + d else 87 + d
/-- a number's last so many digits -/
def hx : Nat → Int → List Int
  | 0, _ => []
  | n + 1, v => hx n (v / 16) ++ [dig (v % 16)]
def bits_Hex.f (a0 : Int) : Option ByteArray := some (strOfNums (hx 12 (Go.bits .and .u64 a0 281474976710655)))
def arr (m : Nat) (xs : List Int) : Obj := .cells ((List.replicate m 0 ++ xs).map (Value.int .u8)).toArray 39
theorem cut_range (a0 : Int) : 0 ≤ Go.bits .and .u64 a0 281474976710655 ∧ Go.bits .and .u64 a0 281474976710655 < 18446744073709551616 := by
  unfold Go.bits
  rw [IntKind.wrap_u64]
  omega
theorem dig_at (d : Int) (h0 : 0 ≤ d) (h1 : d < 16) (hb : d.toNat < (ByteArray.mk #[48, 49, 50, 51, 52, 53, 54, 55, 56, 57, 97, 98, 99, 100, 101, 102]).size) :
    (((ByteArray.mk #[48, 49, 50, 51, 52, 53, 54, 55, 56, 57, 97, 98, 99, 100, 101, 102])[d.toNat]'hb).toNat : Int) = dig d := by
  obtain ⟨n, rfl⟩ := Int.eq_ofNat_of_zero_le h0
  have hn : n < 16 := by omega
  match n, hn with
  | 0, _ | 1, _ | 2, _ | 3, _ | 4, _ | 5, _ | 6, _ | 7, _ | 8, _ | 9, _ | 10, _ | 11, _ | 12, _ | 13, _ | 14, _ | 15, _ => rfl
theorem arr_set (W : World) (m : Nat) (xs : List Int) (d : Int) (g : Nat) (hg : g = W.heap.size) : (W.alloc (arr (m + 1) xs)).setCell ⟨g, m, none⟩ (.int .u8 d) = W.alloc (arr m (d :: xs)) := by
  unfold arr
  rw [World.setCell_alloc_at _ _ _ _ _ hg]
  congr 1
  congr 1
  apply Array.ext'
  simp only [Array.toList_setIfInBounds]
  refine List.ext_getElem (by simp; omega) (fun j h1 h2 => ?_)
  simp only [List.getElem_set, List.getElem_map, List.getElem_append, List.getElem_replicate, List.length_replicate]
  by_cases hj : m = j
  · subst hj
    simp
  · rw [if_neg hj]
    by_cases hlt : j < m
    · rw [dif_pos (by omega), dif_pos hlt]
    · rw [dif_neg (by omega), dif_neg hlt]
      have : j - m = (j - (m + 1)) + 1 := by omega
      simp only [this, List.getElem_cons_succ]
theorem arr_cell (W : World) (m : Nat) (xs : List Int) (g : Nat) (hg : g = W.heap.size) : ∃ v, (W.alloc (arr (m + 1) xs)).cell? ⟨g, m, none⟩ = some v := by
  unfold arr
  rw [World.cell?_alloc_at _ _ _ _ hg]
  exact ⟨_, Array.getElem?_eq_getElem (by simp; omega)⟩
theorem arr_string (W : World) (xs : List Int) (g : Nat) (hg : g = W.heap.size) (hl : xs.length = 12) : (convert 40 9 (.slice (some ⟨g, 0, none⟩) 12 12)).run Try.prog (W.alloc (arr 0 xs)) = .ok (.string (strOfNums xs)) (W.alloc (arr 0 xs)) := by
  have hc : (Kd.int .u8).C (W.alloc (arr 0 xs)) (some ⟨g, 0, none⟩) xs.length xs := by
    refine ⟨rfl, by omega, fun _ => ⟨_, rfl, fun j p hj => ⟨[.int .u8 p], rfl, rfl, fun i u hu => ?_⟩⟩⟩
    have hi : i = 0 := by
      obtain ⟨h1, _⟩ := List.getElem?_eq_some_iff.1 hu
      simp at h1
      exact h1
    subst hi
    have hu' : u = .int .u8 p := by simpa using hu.symm
    subst hu'
    have e : (Addr.add ⟨g, 0, none⟩ (j * 1 + 0)) = ⟨g, j, none⟩ := by
      by_cases h0 : j = 0
      · subst h0
        simp [Addr.add]
      · simp [Addr.add, h0]
    show World.cell? _ (Addr.add ⟨g, 0, none⟩ (j * 1 + 0)) = _
    rw [e]
    unfold arr
    rw [World.cell?_alloc_at _ _ _ _ hg]
    simp [hj]
  have := Kd.C_string (P := Try.prog) (c := 12) Try.underlying40 Try.underlying5 Try.underlying9 hc
  rw [hl] at this
  exact this
theorem arr_free (W : World) (m : Nat) (xs : List Int) (g i : Nat) (hg : g = W.heap.size) : (W.alloc (arr m xs)).frozen? ⟨g, i, none⟩ = false := World.frozen?_alloc_at _ _ _ _ hg
set_option maxHeartbeats 1000000 in
set_option maxRecDepth 100000 in
theorem bits_Hex.calls (a0 : Int) (r : ByteArray) (w : World) (h : bits_Hex.f a0 = some r) :
    Calls Try.prog 16 #[.int .u64 a0] w fun e w' => e = .returned (.string r) ∧ Below w.heap.size w w' := by
  obtain rfl := Option.some.inj h
  clear h
  obtain ⟨c0, c1⟩ := cut_range a0
  have C0 := Aside0.mk c0
  have C1 := Aside0.mk c1
  clear c0 c1
  go_enter Try.func16, Try.ntmps16
  go_wp2_with (go_at_call 10; refine (bits_Cut.calls a0 _ _ rfl).mono ?_; rintro e w' ⟨rfl, ⟨n1, rfl⟩⟩)
  go_loopw [0, 4] (fun av iv wr => ∃ (m : Nat) (i a : Int) (xs : List Int), av = .int .u64 a ∧ iv = .int .i64 i ∧ i + 1 = (m : Int) ∧ 0 ≤ a ∧ Aside0 (a < 18446744073709551616) ∧ m + xs.length = 12 ∧ Aside0 (hx 12 (Go.bits .and .u64 a0 281474976710655) = hx m a ++ xs) ∧ wr = (w.drewN n1).alloc (arr m xs)) (fun _ iv _ => (intOf iv + 1).toNat)
  case atStart => exact ⟨12, 11, _, [], rfl, rfl, rfl, C0.out, C1, rfl, ⟨by simp⟩, rfl⟩
  case round =>
    obtain ⟨m, i, a, xs, rfl, rfl, him, ha0, HA, hm, HX, rfl⟩ := hrel
    have HM := Aside0.mk hm
    cases m with
    | succ m =>
      obtain rfl : i = (m : Int) := by omega
      have hi1 : (m : Int) ≤ 11 := by omega
      have hd : decide (0 ≤ (m : Int)) = true := decide_eq_true (by omega)
      clear him hm
      obtain ⟨v0, hcell⟩ := arr_cell (w.drewN n1) m xs w.heap.size rfl
      have hfree := arr_free (w.drewN n1) (m + 1) xs w.heap.size m rfl
      go_wp2
      rename_i hmod
      refine ⟨⟨m, (m : Int) - 1, a / 16, dig (a % 16) :: xs, ?_, rfl, by omega, by omega, ⟨?_⟩, ?_, ⟨?_⟩, ?_⟩, by simp only [intOf]; omega⟩
      · have := HA.out
        rw [Int.tdiv_eq_ediv_of_nonneg ha0, IntKind.wrap_u64, Int.emod_eq_of_lt (by omega) (by omega)]
      · have := HA.out
        omega
      · have := HM.out
        simp
        omega
      · rw [HX.out, hx]
        simp
      · rw [arr_set (w.drewN n1) m xs _ w.heap.size rfl, dig_at (a % 16) hmod.1 hmod.2]
    | zero =>
      obtain rfl : i = -1 := by omega
      clear him hm
      have hxs : xs.length = 12 := by have := HM.out; omega
      have hcv := arr_string (w.drewN n1) xs w.heap.size rfl hxs
      have HL := Aside0.mk hxs
      clear hxs
      go_wp2
      go_ret
      refine ⟨by rw [HX.out]; simp [hx], ?_⟩
      exact below_alloc (pw_below_drewN (Below.refl _ _) _) _

end Go.Proofs.Ytmhahelgfkodkaa.PA
