/- Find: where a port is, of the places as they lie. -/
import Derived.Test.YtbahpfmfjeafnaaH13
namespace Go.Proofs.Ytbahpfmfjeafnaa.PA
open Go.RowKit Go.Proofs.YtbahpfmfjeafnaaW.PrintWords Go.Proofs.YtbahpfmfjeafnaaW.PrintLast Go.Proofs.YtbahpfmfjeafnaaW.PrintMore
set_option linter.unusedVariables false
set_option linter.unusedSimpArgs false
/-- is it the place that is looked for -/
def hits (port now age : Int) (x : S53) : Bool := (x.f0 == port) && (decide (x.f2 ≤ now) && decide (wrap64 (now - x.f2) < age))
/-- the first place that is looked for -/
def findIn (port now age : Int) : List S53 → Int × Bool
  | [] => (0, false)
  | x :: r => if hits port now age x = true then (x.f1, true) else findIn port now age r
theorem findIn_hit {port now age : Int} {xs : List S53} {k : Nat} (hk : k < xs.length) (h : hits port now age xs[k] = true) : findIn port now age (xs.drop k) = (xs[k].f1, true) := by
  rw [List.drop_eq_getElem_cons hk, findIn, if_pos h]
theorem findIn_miss {port now age : Int} {xs : List S53} {k : Nat} (hk : k < xs.length) (h : ¬ hits port now age xs[k] = true) : findIn port now age (xs.drop k) = findIn port now age (xs.drop (k + 1)) := by
  rw [List.drop_eq_getElem_cons hk, findIn, if_neg h]
set_option maxHeartbeats 1600000 in
set_option maxRecDepth 100000 in
theorem find_calls (w : World) (g : Nat) (ok : Nat → Prop) (xs : List S53) (age port now : Int) (h : IsMap w g ok xs age) (hn : xs.length ≤ 1000) :
    Calls Try.prog 11 #[.pointer (some ⟨g, 0, none⟩), .int .u64 port, .int .i64 now] w fun e w' => e = .returned (.tuple #[.int .i64 (findIn port now age xs).1, .bool (findIn port now age xs).2]) ∧ Below w.heap.size w w' := by
  obtain ⟨A, c, hb, hl, hF, hne⟩ := h
  have hc0 := cellS51_0 hb
  have hc1 := cellS51_1 hb
  have hgl := blk_lt hb
  have HC := Aside0.mk (Kd.F_now hF)
  clear hF hb hne hl
  go_enter Try.func11, Try.ntmps11
  go_wp2
  repeat (go_quiet (fail); try go_wp2)
  go_loopw [15] (fun iv wr => ∃ k : Nat, k ≤ xs.length ∧ iv = .int .i64 k ∧ Aside0 (findIn port now age xs = findIn port now age (xs.drop k)) ∧ Aside0 (Below w.heap.size w wr)) (fun iv _ => xs.length - (intOf iv).toNat)
  case atStart => exact ⟨0, Nat.zero_le _, rfl, ⟨rfl⟩, ⟨Below.refl _ _⟩⟩
  case round =>
    obtain ⟨k, hk, rfl, HE, HW⟩ := hrel
    have hsz := HW.out.size
    have hr1 := pw_cell_below HW.out hc1
    by_cases hlt : k < xs.length
    · obtain ⟨ad, hA, hx0, hx1, hx2⟩ := at_T53 HC.out (k : Int) (by omega) (by omega)
      replace hx0 := pw_cell_below HW.out hx0
      replace hx1 := pw_cell_below HW.out hx1
      replace hx2 := pw_cell_below HW.out hx2
      cases hA
      rw [Int.toNat_natCast] at hx0 hx1 hx2
      have HX : Aside0 (rd_T53 xs (k : Int) = xs[k]) := ⟨by simp [rd_T53, List.getD_eq_getElem?_getD, List.getElem?_eq_getElem hlt]⟩
      generalize rd_T53 xs (k : Int) = x at hx0 hx1 hx2 HX
      have hgr : g < wr.heap.size := by omega
      have hr1' : (wr.alloc (.cells #[.int .u64 x.f0, .int .i64 x.f1, .int .i64 x.f2] 53)).cell? ⟨g, 1, none⟩ = some (.int .i64 age) := by rw [World.cell?_alloc_past _ _ _ (by exact hgr)]; exact hr1
      have HB3 : Aside0 (Below w.heap.size w (wr.alloc (.cells #[.int .u64 x.f0, .int .i64 x.f1, .int .i64 x.f2] 53))) := ⟨HW.out.alloc hsz _⟩
      have miss : hits port now age xs[k] = false → Aside0 (findIn port now age xs = findIn port now age (xs.drop (k + 1))) := fun hh => ⟨HE.out.trans (findIn_miss hlt (by rw [hh]; simp))⟩
      have MISS := Aside0.mk miss
      clear miss
      rw [← HX.out] at MISS
      cases c1 : (x.f0 == port) with
      | true =>
        have c1' : x.f0 = port := by simpa using c1
        cases c2 : decide (x.f2 ≤ now) with
        | true =>
          cases c3 : decide (wrap64 (now - x.f2) < age) with
          | true =>
            have HH : Aside0 (findIn port now age xs = (x.f1, true)) := ⟨HE.out.trans ((findIn_hit hlt (by rw [← HX.out]; unfold hits; rw [c1, c2, c3]; rfl)).trans (by rw [HX.out]))⟩
            clear c1'
            go_wp2_with (fail)
            repeat (go_quiet (fail); try go_wp2)
            go_ret2
            exact ⟨by simp only [HH.out]; rfl, pw_below_drewN HB3.out _⟩
          | false =>
            have M := MISS.out (by unfold hits; rw [c1, c2, c3]; rfl)
            clear c1'
            go_wp2_with (fail)
            repeat (go_quiet (fail); try go_wp2)
            go_roundw
            case rel => exact ⟨k + 1, hlt, by simp, M, ⟨pw_below_drewN HB3.out _⟩⟩
            case measure => simp [intOf]; omega
        | false =>
          have M := MISS.out (by unfold hits; rw [c1, c2]; rfl)
          clear c1'
          go_wp2_with (fail)
          repeat (go_quiet (fail); try go_wp2)
          go_roundw
          case rel => exact ⟨k + 1, hlt, by simp, M, ⟨pw_below_drewN HB3.out _⟩⟩
          case measure => simp [intOf]; omega
      | false =>
        have M := MISS.out (by unfold hits; rw [c1]; rfl)
        have c1' : x.f0 ≠ port := by simpa using c1
        clear c1'
        go_wp2_with (fail)
        repeat (go_quiet (fail); try go_wp2)
        go_roundw
        case rel => exact ⟨k + 1, hlt, by simp, M, ⟨pw_below_drewN HB3.out _⟩⟩
        case measure => simp [intOf]; omega
    · obtain rfl : k = xs.length := by omega
      have HH : Aside0 (findIn port now age xs = (0, false)) := ⟨HE.out.trans (by rw [List.drop_length]; rfl)⟩
      go_wp2_with (fail)
      repeat (go_quiet (fail); try go_wp2)
      go_ret2
      exact ⟨by simp only [HH.out]; rfl, HW.out⟩
end Go.Proofs.Ytbahpfmfjeafnaa.PA
