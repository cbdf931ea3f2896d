/- OracleEntries, walked: no question stands twice among the answers; each answer is a word that was drawn. -/
import Derived.Test.YtekcpffcgiahfaaH9
namespace Go.Proofs.Ytekcpffcgiahfaa.PA
open Go.RowKit Go.Proofs.YtekcpffcgiahfaaW.PrintWords Go.Proofs.YtekcpffcgiahfaaW.PrintLast Go.Proofs.YtekcpffcgiahfaaW.PrintMore
set_option linter.unusedVariables false
set_option linter.unusedSimpArgs false
/-- the answers are the first draws, in order -/
def Outs (es : List S46) (ys : List Int) (n : Nat) : Prop := n = es.length ∧ ∀ i, i < es.length → (es.getD i z46).f2 = ys.getD i 0
theorem Outs.ask {es : List S46} {ys : List Int} {n : Nat} (h : Outs es ys n) (f y : Int) : Outs (askO f y es ys n).es ys (askO f y es ys n).n := by
  unfold askO
  by_cases hk : (knownIn f (cutw y) es).2 = true
  · rw [if_pos hk]
    exact h
  · rw [if_neg hk]
    by_cases hn : n < ys.length
    · rw [if_pos hn]
      obtain ⟨rfl, h2⟩ := h
      refine ⟨by simp, fun i hi => ?_⟩
      simp only [List.length_append, List.length_singleton] at hi
      by_cases e : i = es.length
      · subst e
        simp [List.getD_eq_getElem?_getD]
      · have := h2 i (by omega)
        rw [← this]
        simp only [List.getD_eq_getElem?_getD]
        rw [List.getElem?_append_left (by omega)]
    · rw [if_neg hn]
      exact h
set_option maxHeartbeats 3200000 in
set_option maxRecDepth 100000 in
theorem entries_walk (xs : List Int) (A : Option Addr) (c : Nat) (qs : List S32) (A2 : Option Addr) (c2 : Nat) (W : World) (hC : Kd.C (Kd.int .u64) W A xs.length xs) (hsize : xs.length * 8 ≤ 140737488351232) (hC2 : Kd.C k32 W A2 qs.length qs) (hr : ∀ q ∈ qs, (0 ≤ q.f0 ∧ q.f0 < 256) ∧ 0 ≤ q.f1 ∧ q.f1 < 18446744073709551616) :
    Calls Try.prog 4 #[.slice A xs.length c, .slice A2 qs.length c2] W fun e w' => e = .returned (.bool true) ∧ Below W.heap.size W w' := by
  have HC := Aside0.mk hC
  have HC2 := Aside0.mk hC2
  have hqn := hC2.2.1
  have hxn := hC.2.1
  have HRQ := Aside0.mk hr
  clear hC hC2 hr
  go_enter Try.func4, Try.ntmps4
  go_wp2_with (fail)
  refine (awake_calls W).mono ?_
  rintro e w1 ⟨rfl, HB1⟩
  go_wp2_with (fail)
  refine (of_calls w1 A c xs (Kd.C_below HC.out HB1) hsize).mono ?_
  rintro e w2 ⟨gt, rfl, hgt, hT, HB2⟩
  have hgt' := Nat.le_trans HB1.size hgt
  have HB := Aside0.mk (HB1.trans (HB2.mono HB1.size))
  have hlen : (xs.map cutw).length = xs.length := by simp
  have hys : ∀ i, i < xs.length → (xs.map cutw).getD i 0 = cutw (xs.getD i 0) := fun i hi => by simp [List.getD_eq_getElem?_getD, hi]
  generalize xs.map cutw = ys at hT hlen hys
  have HL := Aside0.mk hlen
  have HY := Aside0.mk hys
  clear HB1 HB2 hgt hlen hys
  go_wp2_with (fail)
  refine (oof_calls w2 gt _ ys _ hT).mono ?_
  rintro e w3 ⟨g, B, rfl, hg, hO, _, HB1⟩
  replace hg := Nat.le_trans HB.out.size hg
  replace HB := Aside0.mk (HB.out.trans (HB1.mono HB.out.size))
  have hmin : W.heap.size ≤ min g gt := Nat.le_min.2 ⟨hg, hgt'⟩
  have HMIN := Aside0.mk hmin
  generalize hokT : (fun k => (w1.heap.size ≤ k ∧ k ≠ gt) ∧ k < w2.heap.size) = okT at hO
  have HO := Aside0.mk (show ∃ v es n, IsOracle w3 g gt B v okT es ys n ∧ Fine es ∧ Outs es ys n from ⟨_, [], 0, hO, Fine.nil, rfl, fun i hi => absurd hi (Nat.not_lt_zero i)⟩)
  clear hT hO HB1 hokT hg hgt' hmin
  go_wp2_with (fail)
  go_loopw [20] (fun iv wr => ∃ k : Nat, k ≤ qs.length ∧ iv = .int .i64 k ∧ Aside0 (∃ v es n, IsOracle wr g gt B v okT es ys n ∧ Fine es ∧ Outs es ys n) ∧ Aside0 (Below W.heap.size W wr)) (fun iv _ => qs.length - (intOf iv).toNat)
  case atStart => exact ⟨0, Nat.zero_le _, rfl, HO, HB⟩
  case round =>
    clear HO HB
    obtain ⟨k, hk, rfl, HO, HB⟩ := hrel
    by_cases hlt : k < qs.length
    · obtain ⟨ad, hA, hx0, hx1⟩ := at_T32 HC2.out (k : Int) (by omega) (by omega)
      replace hx0 := pw_cell_below HB.out hx0
      replace hx1 := pw_cell_below HB.out hx1
      cases hA
      rw [Int.toNat_natCast] at hx0 hx1
      have hq : rd_T32 qs (k : Int) ∈ qs := by
        have : rd_T32 qs (k : Int) = qs[k] := by simp [rd_T32, List.getD_eq_getElem?_getD, List.getElem?_eq_getElem hlt]
        rw [this]
        exact List.getElem_mem hlt
      have hrq := HRQ.out _ hq
      generalize rd_T32 qs (k : Int) = q0 at hx0 hx1 hrq
      obtain ⟨a, b⟩ := q0
      obtain ⟨⟨ha0, ha1⟩, hb0, hb1⟩ := hrq
      simp only [] at hx0 hx1
      have ha0 : 0 ≤ a := ha0
      have ha1 : a < 256 := ha1
      have hb0 : 0 ≤ b := hb0
      have hb1 : b < 18446744073709551616 := hb1
      clear hq
      have hlt' : (k : Int) < (qs.length : Int) := by omega
      have HMOD : Aside0 (wrap64 (a.tmod 2) = a % 2) := ⟨by rw [Int.tmod_eq_emod_of_nonneg ha0]; unfold wrap64; omega⟩
      obtain ⟨v, es, n, hO, hF, hOu⟩ := HO.out
      have hbel := (Below.refl wr.heap.size wr).alloc (Nat.le_refl _) (.cells #[.int .u8 a, .int .u64 b] 32)
      have HOq := Aside0.mk (hO.below hbel)
      have HBq := Aside0.mk (HB.out.trans (hbel.mono HB.out.size))
      have HLE := Aside0.mk hF.le
      have HF := Aside0.mk hF
      have HOu := Aside0.mk hOu
      have hbq : (wr.alloc (.cells #[.int .u8 a, .int .u64 b] 32)).heap[wr.heap.size]? = some (.cells #[.int .u8 a, .int .u64 b] 32 (0, 0)) := by simpa using heap_alloc_new wr _
      have hq0 : (wr.alloc (.cells #[.int .u8 a, .int .u64 b] 32)).cell? ⟨wr.heap.size, 0, none⟩ = some (.int .u8 a) := (blk_cell hbq 0).trans rfl
      have hq1 : (wr.alloc (.cells #[.int .u8 a, .int .u64 b] 32)).cell? ⟨wr.heap.size, 1, none⟩ = some (.int .u64 b) := (blk_cell hbq 1).trans rfl
      clear hO hbel HB HO hF hOu hbq
      go_wp2_with (fail)
      generalize wr.alloc (.cells #[.int .u8 a, .int .u64 b] 32) = wq at HOq HBq hq0 hq1 ⊢
      generalize wr.heap.size = q at hq0 hq1 ⊢
      refine start_ (n := 11) (S := fun w' => w'.cell? ⟨q, 0, none⟩ = some (.int .u8 a) ∧ w'.cell? ⟨q, 1, none⟩ = some (.int .u64 b)) (ds := [7]) #[false, false, false, false, false, false, false, false, false, false, false] (by kernel_rfl) rfl rfl ⟨hq0, hq1⟩ (fun hHeld => ?_)
      refine pure_ (i := 0) (N := some 25) (v := ?_) (a' := ?_) #[true, false, false, false, false, false, false, false, false, false, false] rfl rfl (by kernel_rfl) (fun _ _ _ h => h) (Or.inl ⟨by rfl, ?_⟩) ?_ ?_
      rotate_left
      · intro w'
        go_simp
        with_reducible rfl
      rotate_left
      · simp only [Act.put, List.setIfInBounds_toArray, List.set_cons_zero, List.set_cons_succ, i64_w, i32_w]
        rfl
      refine pure_ (i := 1) (N := some 26) (v := ?_) (a' := ?_) #[true, true, false, false, false, false, false, false, false, false, false] rfl rfl (by kernel_rfl) (fun _ _ _ h => h) (Or.inl ⟨by rfl, ?_⟩) ?_ ?_
      rotate_left
      · intro w'
        go_simp
        with_reducible rfl
      rotate_left
      · simp only [Act.put, List.setIfInBounds_toArray, List.set_cons_zero, List.set_cons_succ, i64_w, i32_w]
        rfl
      refine take_ (i := 2) (N := some 27) (v := ?_) (a' := ?_) #[true, true, true, false, false, false, false, false, false, false, false] rfl rfl (by kernel_rfl) (fun _ _ _ h => h) (Or.inl ⟨by rfl, ?_⟩) hHeld ?_ ?_
      rotate_left
      · rintro w' ⟨s0, s1⟩
        go_simp
        with_reducible rfl
      rotate_left
      · simp only [Act.put, List.setIfInBounds_toArray, List.set_cons_zero, List.set_cons_succ, i64_w, i32_w]
        rfl
      refine pure_ (i := 3) (N := some 28) (v := ?_) (a' := ?_) #[true, true, true, true, false, false, false, false, false, false, false] rfl rfl (by kernel_rfl) (fun _ _ _ h => h) (Or.inl ⟨by rfl, ?_⟩) ?_ ?_
      rotate_left
      · intro w'
        go_simp
        with_reducible rfl
      rotate_left
      · simp only [Act.put, List.setIfInBounds_toArray, List.set_cons_zero, List.set_cons_succ, i64_w, i32_w]
        rfl
      refine pure_ (i := 4) (N := some 29) (v := ?_) (a' := ?_) #[true, true, true, true, true, false, false, false, false, false, false] rfl rfl (by kernel_rfl) (fun _ _ _ h => h) (Or.inl ⟨by rfl, ?_⟩) ?_ ?_
      rotate_left
      · intro w'
        go_simp
        with_reducible rfl
      rotate_left
      · simp only [Act.put, List.setIfInBounds_toArray, List.set_cons_zero, List.set_cons_succ, i64_w, i32_w]
        rfl
      refine take_ (i := 5) (N := some 30) (v := ?_) (a' := ?_) #[true, true, true, true, true, true, false, false, false, false, false] rfl rfl (by kernel_rfl) (fun _ _ _ h => h) (Or.inl ⟨by rfl, ?_⟩) hHeld ?_ ?_
      rotate_left
      · rintro w' ⟨s0, s1⟩
        go_simp
        with_reducible rfl
      rotate_left
      · simp only [Act.put, List.setIfInBounds_toArray, List.set_cons_zero, List.set_cons_succ, i64_w, i32_w]
        rfl
      refine one_ (i := 6) (N := some 31) #[true, true, true, true, true, true, true, false, false, false, false] rfl rfl (by kernel_rfl) (by decide) (fun K hK => ?_)
      refine goes_ Try.func11 (by kernel_rfl) rfl #[.agg #[.int .u8 a, .int .u64 b]] (by rfl) rfl rfl (by simp only [List.map_toArray, List.map_cons, List.map_nil]; rfl) ?_
      with_reducible refine (in_calls a b hb0 _).mono ?_
      rintro e w3 ⟨rfl, hb3⟩
      refine ⟨_, rfl, ?_⟩
      have HB3 := Aside0.mk hb3
      clear hb3
      refine hK.out _ _ ⟨(pw_cell_below HB3.out hq0), (pw_cell_below HB3.out hq1)⟩ (fun hHeld => ?_)
      clear hK K
      refine norm_ (a' := ?_) ?_ ?_
      rotate_left
      · show Act.put _ (some 31) _ = _
        simp only [Act.put, List.setIfInBounds_toArray, List.set_cons_zero, List.set_cons_succ, i64_w, i32_w]
        rfl
      refine last_ (i := 7) (N := some 32) #[true, true, true, true, true, true, true, true, false, false, false] rfl rfl (by kernel_rfl) (by decide) (fun K hK => ?_)
      refine goes_ Try.func10 (by kernel_rfl) rfl #[.pointer (some ⟨g, 0, none⟩), .int .i64 (wrap64 (a.tmod 2)), .int .u64 (asked b)] (by rfl) rfl rfl (by simp only [List.map_toArray, List.map_cons, List.map_nil]; rfl) ?_
      with_reducible refine (ask_any w3 g gt B v okT es ys n (wrap64 (a.tmod 2)) (asked b) (IsOracle.below (IsOracle.below HOq.out (w1 := wq.drew) (by repeat (first | exact Below.refl _ _ | apply below_alloc | apply pw_below_drewN | apply below_drew1))) HB3.out) HLE.out).mono ?_
      rintro e w4 ⟨rfl, hO4⟩
      refine ⟨_, rfl, ?_⟩
      have HO4 := Aside0.mk hO4
      clear hO4
      refine hK.out _ _ ?_
      clear hK K
      refine norm_ (a' := ?_) ?_ ?_
      rotate_left
      · show Act.put _ (some 32) _ = _
        simp only [Act.put, List.setIfInBounds_toArray, List.set_cons_zero, List.set_cons_succ, i64_w, i32_w]
        rfl
      refine pure_ (i := 8) (N := some 24) (v := ?_) (a' := ?_) #[true, true, true, true, true, true, true, true, true, false, false] rfl rfl (by kernel_rfl) (fun _ _ _ h => h) (Or.inl ⟨by rfl, ?_⟩) ?_ ?_
      rotate_left
      · intro w'
        go_simp
        with_reducible rfl
      rotate_left
      · simp only [Act.put, List.setIfInBounds_toArray, List.set_cons_zero, List.set_cons_succ, i64_w, i32_w]
        rfl
      refine pure_ (i := 9) (N := some 33) (v := ?_) (a' := ?_) #[true, true, true, true, true, true, true, true, true, true, false] rfl rfl (by kernel_rfl) (fun _ _ _ h => h) (Or.inl ⟨by rfl, ?_⟩) ?_ ?_
      rotate_left
      · intro w'
        go_simp
        with_reducible rfl
      rotate_left
      · simp only [Act.put, List.setIfInBounds_toArray, List.set_cons_zero, List.set_cons_succ, i64_w, i32_w]
        rfl
      refine pure_ (i := 10) (N := some 34) (v := ?_) (a' := ?_) #[true, true, true, true, true, true, true, true, true, true, true] rfl rfl (by kernel_rfl) (fun _ _ _ h => h) (Or.inl ⟨by rfl, ?_⟩) ?_ ?_
      rotate_left
      · intro w'
        go_simp
        with_reducible rfl
      rotate_left
      · simp only [Act.put, List.setIfInBounds_toArray, List.set_cons_zero, List.set_cons_succ, i64_w, i32_w]
        rfl
      refine done_ (by kernel_rfl) ?_


      have hO4' := HO4.out
      rw [HMOD.out] at hO4'
      obtain ⟨v1, hO4, _, _, _, hB4⟩ := hO4'
      have HB4 := Aside0.mk (HBq.out.trans ((Below.mono (show Below wq.heap.size wq wq.drew by repeat (first | exact Below.refl _ _ | apply below_drew1)) HBq.out.size).trans ((HB3.out.mono HBq.out.size).trans (hB4.mono HMIN.out))))
      have HO5 := Aside0.mk (show ∃ v es n, IsOracle w4 g gt B v okT es ys n ∧ Fine es ∧ Outs es ys n from ⟨_, _, _, hO4, HF.out.ask a b hb0 ys n, HOu.out.ask _ _⟩)
      clear hO4 hB4 HO4 HF HOu
      go_wp2_with (fail)
      go_roundw
      case rel => exact ⟨k + 1, hlt, by simp, HO5, HB4⟩
      case measure => simp [intOf]; omega
    · obtain rfl : k = qs.length := by omega
      obtain ⟨v, es, n, hO, hF, hOu⟩ := HO.out
      obtain ⟨rfl, hOut⟩ := hOu
      have hle := hF.le
      have hny : es.length ≤ ys.length := hO.tape.le
      have hnx : es.length ≤ xs.length := by have := HL.out; omega
      have HO2 := Aside0.mk hO
      have HF := Aside0.mk hF
      have HOut := Aside0.mk hOut
      clear HO hO hF hOut
      go_wp2_with (fail)
      refine (entries_calls _ g gt B v okT es ys _ HO2.out (by omega)).mono ?_
      rintro e w4 ⟨u, rfl, hR, hB4⟩
      obtain ⟨Au, cu, rfl⟩ := Kd.R_slice hR
      have hcu := (Kd.R_reads' hR).2.1
      have HR := Aside0.mk (Kd.R_reads' hR).2.2
      have HO4 := Aside0.mk (HO2.out.below hB4)
      have HB4 := Aside0.mk (HB.out.trans (hB4.mono HB.out.size))
      clear hR hB4 HO2 HB
      go_wp2_with (fail)
      refine (oleft_calls _ g gt B v okT es ys _ HO4.out).mono ?_
      rw [HL.out]
      rintro e w5 ⟨rfl, hB5⟩
      have HR5 := Aside0.mk (Kd.C_below HR.out hB5)
      have HB5 := Aside0.mk (HB4.out.trans (hB5.mono HB4.out.size))
      have wd : wrap64 ((xs.length : Int) - es.length) = (xs.length : Int) - es.length := by unfold wrap64; omega
      clear hB5 HO4 HB4 HR
      go_wp2_with (fail)
      go_loopw [48] (fun iv wr => ∃ k : Nat, k ≤ es.length ∧ iv = .int .i64 k ∧ Aside0 (Below w5.heap.size w5 wr)) (fun iv _ => es.length - (intOf iv).toNat)
      case atStart => exact ⟨0, Nat.zero_le _, rfl, ⟨Below.refl _ _⟩⟩
      case round =>
        obtain ⟨k, hk, rfl, HW⟩ := hrel
        by_cases hlt2 : k < es.length
        · obtain ⟨ad, hA, hx0, hx1, hx2⟩ := at_T46 HR5.out (k : Int) (by omega) (by omega)
          replace hx0 := pw_cell_below HW.out hx0
          replace hx1 := pw_cell_below HW.out hx1
          replace hx2 := pw_cell_below HW.out hx2
          cases hA
          rw [Int.toNat_natCast] at hx0 hx1 hx2
          obtain ⟨ae, hAe, hxe⟩ := Kd.at_int HC.out (k : Int) (by omega) (by omega)
          cases hAe
          replace hxe := pw_cell_below HW.out (pw_cell_below HB5.out hxe)
          rw [Int.toNat_natCast, show rd xs (k : Int) = xs.getD k 0 by simp [rd]] at hxe
          have hxk : rd_T46 es (k : Int) = es.getD k z46 := by simp [rd_T46]
          have hout : (rd_T46 es (k : Int)).f2 = cutw (xs.getD k 0) := by
            rw [hxk, HOut.out k hlt2, HY.out k (by omega)]
          have HDIF : Aside0 (∀ i, i < k → ¬ ((rd_T46 es (k : Int)).f0 = (es.getD i z46).f0 ∧ (rd_T46 es (k : Int)).f1 = (es.getD i z46).f1)) := ⟨fun i hi hc => by
            rw [hxk] at hc
            have hnd := HF.out.1
            have hp := List.pairwise_iff_getElem.1 (show List.Pairwise (· ≠ ·) _ from hnd) i k (by rw [List.length_map]; omega) (by rw [List.length_map]; exact hlt2) hi
            apply hp
            simp only [List.getElem_map]
            simp only [List.getD_eq_getElem?_getD, List.getElem?_eq_getElem hlt2, List.getElem?_eq_getElem (show i < es.length by omega), Option.getD_some] at hc
            rw [hc.1, hc.2]⟩
          generalize xs.getD k 0 = z at hxe hout
          generalize rd_T46 es (k : Int) = x at hx0 hx1 hx2 hout HDIF
          obtain ⟨x0, x1, x2⟩ := x
          simp only [] at hx0 hx1 hx2 hout
          clear hxk
          have hlt2' : (k : Int) < (es.length : Int) := by omega
          have hkx : (k : Int) < (xs.length : Int) := by omega
          have hsz := HW.out.size
          have hbel := (Below.refl wr.heap.size wr).alloc (Nat.le_refl _) (.cells #[.int .i64 x0, .int .u64 x1, .int .u64 x2] 46)
          have HWq := Aside0.mk (HW.out.trans (hbel.mono hsz))
          have hbq : (wr.alloc (.cells #[.int .i64 x0, .int .u64 x1, .int .u64 x2] 46)).heap[wr.heap.size]? = some (.cells #[.int .i64 x0, .int .u64 x1, .int .u64 x2] 46 (0, 0)) := by simpa using heap_alloc_new wr _
          have hq0 := (blk_cell hbq 0).trans (show _ = some (Value.int .i64 x0) from rfl)
          have hq1 := (blk_cell hbq 1).trans (show _ = some (Value.int .u64 x1) from rfl)
          have hq2 := (blk_cell hbq 2).trans (show _ = some (Value.int .u64 x2) from rfl)
          replace hxe := pw_cell_below hbel hxe
          have hqs : wr.heap.size < (wr.alloc (.cells #[.int .i64 x0, .int .u64 x1, .int .u64 x2] 46)).heap.size := by simp
          clear hbq hbel HW
          subst hout
          go_wp2_with (fail)
          generalize wr.alloc (.cells #[.int .i64 x0, .int .u64 x1, .int .u64 (cutw z)] 46) = wq at HWq hq0 hq1 hq2 hxe hqs ⊢
          generalize wr.heap.size = q at hq0 hq1 hq2 hqs ⊢
          have hcut : Go.bits .and .u64 z 281474976710655 = cutw z := rfl
          repeat (go_quiet (fail); try go_wp2)
          have HWq2 : Aside0 (Below w5.heap.size w5 (wq.drewN nq)) := ⟨pw_below_drewN HWq.out _⟩
          have hq0' : (wq.drewN nq).cell? ⟨q, 0, none⟩ = some (.int .i64 x0) := hq0
          have hq1' : (wq.drewN nq).cell? ⟨q, 1, none⟩ = some (.int .u64 x1) := hq1
          have hqs' : q < (wq.drewN nq).heap.size := hqs
          generalize wq.drewN nq = wz at HWq2 hq0' hq1' hqs' ⊢
          clear hq0 hq1 hq2 hxe hqs HWq hcut
          go_loopw [65] (fun iv wr => ∃ i : Nat, i ≤ k ∧ iv = .int .i64 i ∧ Aside0 (Below wz.heap.size wz wr)) (fun iv _ => k - (intOf iv).toNat)
          case atStart => exact ⟨0, Nat.zero_le _, rfl, ⟨Below.refl _ _⟩⟩
          case round =>
            obtain ⟨i, hi, rfl, HV⟩ := hrel
            by_cases hik : i < k
            · obtain ⟨ad2, hA2, hy0, hy1, hy2⟩ := at_T46 HR5.out (i : Int) (by omega) (by omega)
              cases hA2
              replace hy0 := pw_cell_below HV.out (pw_cell_below HWq2.out hy0)
              replace hy1 := pw_cell_below HV.out (pw_cell_below HWq2.out hy1)
              replace hy2 := pw_cell_below HV.out (pw_cell_below HWq2.out hy2)
              rw [Int.toNat_natCast] at hy0 hy1 hy2
              have hd := HDIF.out i hik
              rw [show es.getD i z46 = rd_T46 es (i : Int) by simp [rd_T46]] at hd
              generalize rd_T46 es (i : Int) = y at hy0 hy1 hy2 hd
              obtain ⟨y0, y1, y2⟩ := y
              simp only [] at hy0 hy1 hy2 hd
              have hv0 := pw_cell_below HV.out hq0'
              have hv1 := pw_cell_below HV.out hq1'
              have hvs := HV.out.size
              have hik' : (i : Int) < (k : Int) := by omega
              have hbel := (Below.refl wr.heap.size wr).alloc (Nat.le_refl _) (.cells #[.int .i64 y0, .int .u64 y1, .int .u64 y2] 46)
              have HV2 := Aside0.mk (HV.out.trans (hbel.mono hvs))
              have hv0' := pw_cell_below hbel hv0
              have hv1' := pw_cell_below hbel hv1
              clear hbel HV
              by_cases h1 : x0 = y0
              · have h2 : ¬ x1 = y1 := fun h2 => hd ⟨h1, h2⟩
                clear hd
                go_wp2_with (fail)
                go_roundw
                case rel => exact ⟨i + 1, hik, by simp, HV2⟩
                case measure => simp [intOf]; omega
              · clear hd
                go_wp2_with (fail)
                go_roundw
                case rel => exact ⟨i + 1, hik, by simp, HV2⟩
                case measure => simp [intOf]; omega
            · obtain rfl : i = k := by omega
              have HWF := Aside0.mk (HWq2.out.trans (HV.out.mono HWq2.out.size))
              go_wp2_with (fail)
              go_roundw
              case rel => exact ⟨i + 1, hlt2, by simp, HWF⟩
              case measure => simp [intOf]; omega
        · obtain rfl : k = es.length := by omega
          go_wp2_with (fail)
          go_ret
          exact ⟨rfl, HB5.out.trans (HW.out.mono HB5.out.size)⟩
end Go.Proofs.Ytekcpffcgiahfaa.PA
