/- Known, Left, Draw, Entries, Of: what they answer and leave. -/
import Derived.Test.YtnphfcaokjdigaaGreatDoorH4
namespace Go.Proofs.YtnphfcaokjdigaaGreatDoor.PA
open Go.RowKit Go.Proofs.YtnphfcaokjdigaaGreatDoorW.PrintWords Go.Proofs.YtnphfcaokjdigaaGreatDoorW.PrintLast Go.Proofs.YtnphfcaokjdigaaGreatDoorW.PrintMore
set_option linter.unusedVariables false
set_option linter.unusedSimpArgs false
theorem cell118_0 {W : World} {g : Nat} {v u : Value} (h : W.heap[g]? = some (.cells #[v, u] 118 (0, 0))) : W.cell? ⟨g, 0, none⟩ = some v := (blk_cell h 0).trans rfl
theorem cell118_1 {W : World} {g : Nat} {v u : Value} (h : W.heap[g]? = some (.cells #[v, u] 118 (0, 0))) : W.cell? ⟨g, 1, none⟩ = some u := (blk_cell h 1).trans rfl
theorem odraw_some (w : World) (g gt B : Nat) (v : Value) (okT : Nat → Prop) (es : List S46) (xs : List Int) (n : Nat) (h : IsOracle w g gt B v okT es xs n) (hn : n < xs.length) :
    Calls Tryz.prog 45 #[.pointer (some ⟨g, 0, none⟩)] w fun e w' => e = .returned (.tuple #[.int .u64 (xs.getD n 0), .nilIface]) ∧ IsOracle w' g gt B v okT es xs (n + 1) ∧ KeepBut w w' gt none ∧ Below gt w w' := by
  have hT := h.tape
  have HO := Aside0.mk h
  obtain ⟨hb, _⟩ := h
  have hc1 := cell118_1 hb
  have hD := draw_some w gt okT xs n hT hn
  obtain ⟨y, hy⟩ : ∃ y, xs.getD n 0 = y := ⟨_, rfl⟩
  rw [hy] at hD ⊢
  clear hy hb
  go_enter Tryz.func45, Tryz.ntmps45
  go_wp2_with (fail)
  refine hD.mono ?_
  rintro e w1 ⟨rfl, hT1, hK1, hB1⟩
  go_wp2_with (fail)
  go_ret2
  exact ⟨rfl, HO.out.drew hK1 hT1, hK1, hB1⟩
theorem odraw_none (w : World) (g gt B : Nat) (v : Value) (okT : Nat → Prop) (es : List S46) (xs : List Int) (h : IsOracle w g gt B v okT es xs xs.length) :
    Calls Tryz.prog 45 #[.pointer (some ⟨g, 0, none⟩)] w fun e w' => e = .returned (.tuple #[.int .u64 0, .iface 74 (.int .i64 7)]) ∧ IsOracle w' g gt B v okT es xs xs.length ∧ KeepBut w w' gt none ∧ Below gt w w' := by
  have hT := h.tape
  have HO := Aside0.mk h
  obtain ⟨hb, _⟩ := h
  have hc1 := cell118_1 hb
  have hD := draw_none w gt okT xs hT
  clear hb
  go_enter Tryz.func45, Tryz.ntmps45
  go_wp2_with (fail)
  refine hD.mono ?_
  rintro e w1 ⟨rfl, hT1, hK1, hB1⟩
  go_wp2_with (fail)
  go_ret2
  exact ⟨rfl, HO.out.drew hK1 hT1, hK1, hB1⟩
theorem oof_calls (w : World) (gt : Nat) (okT : Nat → Prop) (xs : List Int) (n : Nat) (h : IsTape w gt okT xs n) :
    Calls Tryz.prog 19 #[.pointer (some ⟨gt, 0, none⟩)] w fun e w' => ∃ g B, e = .returned (.pointer (some ⟨g, 0, none⟩)) ∧ w.heap.size ≤ g ∧ IsOracle w' g gt B (.slice none 0 0) (fun k => okT k ∧ k < w.heap.size) [] xs n ∧ w'.heap.size ≤ B ∧ Below w.heap.size w w' := by
  have hT := h.bound
  have hl := h.lt
  have HB := Aside0.mk ((Below.refl w.heap.size w).alloc (Nat.le_refl _) (.cells #[.slice none 0 0, .pointer (some ⟨gt, 0, none⟩)] 118))
  have HT := Aside0.mk (hT.below HB.out)
  clear h hT
  go_enter Tryz.func19, Tryz.ntmps19
  go_wp2_with (fail)
  go_ret
  exact ⟨w.heap.size, w.heap.size + 1, rfl, Nat.le_refl _, ⟨by simpa using heap_alloc_new w _, Kd.R_nil _ _ _ _ _, by omega, by omega, by omega, fun k hk => ⟨by have := hk.2; omega, by have := hk.2; omega⟩, by simp, HT.out⟩, by simp, HB.out⟩
theorem oof_nil (w : World) :
    Calls Tryz.prog 19 #[.pointer none] w fun e w' => ∃ g gt B okT, e = .returned (.pointer (some ⟨g, 0, none⟩)) ∧ w.heap.size ≤ g ∧ w.heap.size ≤ gt ∧ IsOracle w' g gt B (.slice none 0 0) okT [] [] 0 ∧ Below w.heap.size w w' := by
  go_enter Tryz.func19, Tryz.ntmps19
  go_wp2_with (fail)
  refine (of_calls w none 0 [] (Kd.C_nil _ _) (by simp)).mono ?_
  rintro e w1 ⟨gt, rfl, hgt, hT, HB1⟩
  have hl := hT.lt
  have HB := Aside0.mk (HB1.alloc HB1.size (.cells #[.slice none 0 0, .pointer (some ⟨gt, 0, none⟩)] 118))
  have hT' := hT.bound.below ((Below.refl w1.heap.size w1).alloc (Nat.le_refl _) (.cells #[.slice none 0 0, .pointer (some ⟨gt, 0, none⟩)] 118))
  have HT := Aside0.mk hT'
  have HS := Aside0.mk HB1.size
  clear hT hT' HB1
  go_wp2_with (fail)
  go_ret
  exact ⟨w1.heap.size, gt, w1.heap.size + 1, _, rfl, HS.out, hgt, ⟨by simpa using heap_alloc_new w1 _, Kd.R_nil _ _ _ _ _, by omega, by omega, by omega, fun k hk => ⟨by have := hk.2; omega, by have := hk.2; omega⟩, by simp, HT.out⟩, HB.out⟩
set_option maxHeartbeats 1600000 in
set_option maxRecDepth 100000 in
theorem known_calls (w : World) (g gt B : Nat) (v : Value) (okT : Nat → Prop) (es : List S46) (xs : List Int) (n : Nat) (f y : Int) (h : IsOracle w g gt B v okT es xs n) :
    Calls Tryz.prog 111 #[.pointer (some ⟨g, 0, none⟩), .int .i64 f, .int .u64 y] w fun e w' => e = .returned (.tuple #[.int .u64 (knownIn f (cutw y) es).1, .bool (knownIn f (cutw y) es).2]) ∧ Below w.heap.size w w' := by
  obtain ⟨hb, hR, _⟩ := h
  obtain ⟨A, c, rfl⟩ := Kd.R_slice hR
  have hc0 := cell118_0 hb
  have HC := Aside0.mk (Kd.R_reads' hR).2.2
  have hln := HC.out.2.1
  clear hR hb
  go_enter Tryz.func111, Tryz.ntmps111
  go_wp2
  repeat (go_quiet (fail); try go_wp2)
  go_loopw [15] (fun iv wr => ∃ k : Nat, k ≤ es.length ∧ iv = .int .i64 k ∧ Aside0 (knownIn f (cutw y) es = knownIn f (cutw y) (es.drop k)) ∧ Aside0 (Below w.heap.size w wr)) (fun iv _ => es.length - (intOf iv).toNat)
  case atStart => exact ⟨0, Nat.zero_le _, rfl, ⟨rfl⟩, ⟨Below.refl _ _⟩⟩
  case round =>
    obtain ⟨k, hk, rfl, HE, HW⟩ := hrel
    have hsz := HW.out.size
    by_cases hlt : k < es.length
    · obtain ⟨ad, hA, hx0, hx1, hx2⟩ := at_T46 HC.out (k : Int) (by omega) (by omega)
      replace hx0 := pw_cell_below HW.out hx0
      replace hx1 := pw_cell_below HW.out hx1
      replace hx2 := pw_cell_below HW.out hx2
      cases hA
      rw [Int.toNat_natCast] at hx0 hx1 hx2
      have hst := HE.out.trans (knownIn_drop hlt)
      have HX : rd_T46 es (k : Int) = es[k] := by simp [rd_T46, List.getD_eq_getElem?_getD, List.getElem?_eq_getElem hlt]
      rw [← HX] at hst
      have HST := Aside0.mk hst
      clear hst HX
      generalize rd_T46 es (k : Int) = x at hx0 hx1 hx2 HST
      have HB3 : Aside0 (Below w.heap.size w (wr.alloc (.cells #[.int .i64 x.f0, .int .u64 x.f1, .int .u64 x.f2] 260))) := ⟨HW.out.alloc hsz _⟩
      have hlt' : (k : Int) < (es.length : Int) := by omega
      by_cases c1 : x.f0 = f
      · have c1b : (x.f0 == f) = true := by simp [c1]
        by_cases c2 : x.f1 = cutw y
        · have c2b : (x.f1 == cutw y) = true := by simp [c2]
          have HH : Aside0 (knownIn f (cutw y) es = (x.f2, true)) := ⟨HST.out.trans (if_pos ⟨c1, c2⟩)⟩
          clear c1 c2
          go_wp2_with (fail)
          go_quiet (exact Calls.quiet_of_same (cut_calls y _))
          go_wp2
          go_ret2
          exact ⟨by simp only [HH.out]; rfl, pw_below_drewN HB3.out _⟩
        · have c2b : (x.f1 == cutw y) = false := by simp [c2]
          have M : Aside0 (knownIn f (cutw y) es = knownIn f (cutw y) (es.drop (k + 1))) := ⟨HST.out.trans (if_neg (fun h => c2 h.2))⟩
          clear c1 c2
          go_wp2_with (fail)
          go_quiet (exact Calls.quiet_of_same (cut_calls y _))
          go_wp2
          go_roundw
          case rel => exact ⟨k + 1, hlt, by simp, M, ⟨pw_below_drewN HB3.out _⟩⟩
          case measure => simp [intOf]; omega
      · have c1b : (x.f0 == f) = false := by simp [c1]
        have M : Aside0 (knownIn f (cutw y) es = knownIn f (cutw y) (es.drop (k + 1))) := ⟨HST.out.trans (if_neg (fun h => c1 h.1))⟩
        clear c1
        go_wp2_with (fail)
        repeat (go_quiet (fail); try go_wp2)
        go_roundw
        case rel => exact ⟨k + 1, hlt, by simp, M, ⟨pw_below_drewN HB3.out _⟩⟩
        case measure => simp [intOf]; omega
    · obtain rfl : k = es.length := by omega
      have HH : Aside0 (knownIn f (cutw y) es = (0, false)) := ⟨HE.out.trans (by rw [List.drop_length]; rfl)⟩
      go_wp2_with (fail)
      repeat (go_quiet (fail); try go_wp2)
      go_ret2
      exact ⟨by simp only [HH.out]; rfl, HW.out⟩
end Go.Proofs.YtnphfcaokjdigaaGreatDoor.PA
