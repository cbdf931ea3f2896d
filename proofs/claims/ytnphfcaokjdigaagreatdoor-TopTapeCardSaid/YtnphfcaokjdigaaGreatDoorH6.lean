/- Ask: the answer that was given ahead, else the next draw. -/
import Derived.Test.YtnphfcaokjdigaaGreatDoorH5
namespace Go.Proofs.YtnphfcaokjdigaaGreatDoor.PA
open Go.RowKit Go.Proofs.YtnphfcaokjdigaaGreatDoorW.PrintWords Go.Proofs.YtnphfcaokjdigaaGreatDoorW.PrintLast Go.Proofs.YtnphfcaokjdigaaGreatDoorW.PrintMore
set_option linter.unusedVariables false
set_option linter.unusedSimpArgs false
theorem ask_known (w : World) (g gt B : Nat) (v : Value) (okT : Nat → Prop) (es : List S46) (xs : List Int) (n : Nat) (f y out : Int) (h : IsOracle w g gt B v okT es xs n) (hk : knownIn f (cutw y) es = (out, true)) :
    Calls Tryz.prog 79 #[.pointer (some ⟨g, 0, none⟩), .int .i64 f, .int .u64 y] w fun e w' => e = .returned (.tuple #[.int .u64 out, .nilIface]) ∧ Below w.heap.size w w' := by
  have hK := known_calls w g gt B v okT es xs n f y h
  rw [hk] at hK
  clear hk
  go_enter Tryz.func79, Tryz.ntmps79
  go_wp2_with (fail)
  refine hK.mono ?_
  rintro e w1 ⟨rfl, HB1⟩
  go_wp2_with (fail)
  go_ret2
  exact ⟨rfl, HB1⟩
theorem ask_none (w : World) (g gt B : Nat) (v : Value) (okT : Nat → Prop) (es : List S46) (xs : List Int) (f y : Int) (h : IsOracle w g gt B v okT es xs xs.length) (hk : knownIn f (cutw y) es = (0, false)) :
    Calls Tryz.prog 79 #[.pointer (some ⟨g, 0, none⟩), .int .i64 f, .int .u64 y] w fun e w' => e = .returned (.tuple #[.int .u64 0, .iface 74 (.int .i64 7)]) ∧ IsOracle w' g gt B v okT es xs xs.length ∧ KeepBut w w' gt none ∧ Below gt w w' := by
  have hK := known_calls w g gt B v okT es xs _ f y h
  rw [hk] at hK
  clear hk
  have HO := Aside0.mk h
  clear h
  go_enter Tryz.func79, Tryz.ntmps79
  go_wp2_with (fail)
  refine hK.mono ?_
  rintro e w1 ⟨rfl, HB1⟩
  have HO1 := Aside0.mk (HO.out.below HB1)
  have HB1 := Aside0.mk HB1
  have hc1 := cell118_1 HO1.out.1
  have hT1 := HO1.out.tape
  clear hK
  go_wp2_with (fail)
  refine (draw_none w1 gt okT xs hT1).mono ?_
  rintro e w2 ⟨rfl, hT2, hK2, hB2⟩
  have HO2 := Aside0.mk (HO1.out.drew hK2 hT2)
  have HK2 := Aside0.mk hK2
  have HB2 := Aside0.mk hB2
  clear hT2 hK2 hB2 hT1 hc1
  go_wp2_with (fail)
  go_ret2
  have hgt := HO.out.tape.lt
  exact ⟨rfl, HO2.out, (KeepBut.of_below HB1.out gt none).trans HK2.out (.inl rfl), (HB1.out.mono (Nat.le_of_lt hgt)).trans HB2.out⟩
set_option maxHeartbeats 1600000 in
set_option maxRecDepth 100000 in
theorem ask_new (w : World) (g gt Bo : Nat) (v : Value) (okT : Nat → Prop) (es : List S46) (xs : List Int) (n : Nat) (f y : Int) (h : IsOracle w g gt Bo v okT es xs n) (hk : knownIn f (cutw y) es = (0, false)) (hn : n < xs.length) (hl : (es.length + 1) * 24 ≤ 140737488355328) :
    Calls Tryz.prog 79 #[.pointer (some ⟨g, 0, none⟩), .int .i64 f, .int .u64 y] w fun e w' => e = .returned (.tuple #[.int .u64 (xs.getD n 0), .nilIface]) ∧
      ∃ v1, IsOracle w' g gt Bo v1 okT (es ++ [⟨f, cutw y, xs.getD n 0⟩]) xs (n + 1) ∧ (∀ k, k < w.heap.size → k ≠ g → k ≠ gt → some k ≠ v.ownBlock → w'.heap[k]? = w.heap[k]?) ∧
        (v1.ownBlock = v.ownBlock ∨ ∃ b, v1.ownBlock = some b ∧ w.heap.size ≤ b) ∧ w.heap.size ≤ w'.heap.size ∧ Below (min g gt) w w' := by
  have hK := known_calls w g gt Bo v okT es xs n f y h
  rw [hk] at hK
  clear hk
  have HO := Aside0.mk h
  obtain ⟨Aq, cq, rfl⟩ := Kd.R_slice h.own
  have hD := fun w1 => draw_some w1 gt okT xs n
  obtain ⟨x, hx⟩ : ∃ x, xs.getD n 0 = x := ⟨_, rfl⟩
  rw [hx] at hD ⊢
  clear h hx
  go_enter Tryz.func79, Tryz.ntmps79
  go_wp2_with (fail)
  refine hK.mono ?_
  rintro e w1 ⟨rfl, HB1⟩
  have HO1 := Aside0.mk (HO.out.below HB1)
  have HB1 := Aside0.mk HB1
  have hc1 := cell118_1 HO1.out.1
  have hD1 := hD w1 HO1.out.tape hn
  clear hK hD hn
  go_wp2_with (fail)
  refine hD1.mono ?_
  rintro e wd ⟨rfl, hT2, hK2, hB2⟩
  have HO2 := Aside0.mk (HO1.out.drew hK2 hT2)
  have HK2 := Aside0.mk hK2
  have HB2 := Aside0.mk hB2
  clear hT2 hK2 hB2 hD1 hc1
  have hc0 := cell118_0 HO2.out.1
  have HBK := Aside0.mk HO2.out.1
  have HR := Aside0.mk HO2.out.own
  have hgl := blk_lt HO2.out.1
  have hBs : Bo ≤ wd.heap.size := HO2.out.2.2.2.2.2.2.1
  have hw1 := HB1.out.size
  have hw2 := HK2.out.1
  go_wp2_with (fail)
  refine start_ (n := 15) (S := fun w' => w'.cell? ⟨g, 0, none⟩ = some (.slice Aq es.length cq)) (ds := [14]) #[false, false, false, false, false, false, false, false, false, false, false, false, false, false, false] (by kernel_rfl) rfl rfl (hc0) (fun hHeld => ?_)
  refine pure_ (i := 0) (N := some 32) (v := ?_) (a' := ?_) #[true, false, false, false, false, false, false, false, false, false, false, false, false, false, false] rfl rfl (by kernel_rfl) (fun _ _ _ h => h) (Or.inl ⟨by rfl, ?_⟩) ?_ ?_
  rotate_left
  · intro w'
    go_simp
    with_reducible rfl
  rotate_left
  · simp only [Act.put, List.setIfInBounds_toArray, List.set_cons_zero, List.set_cons_succ, i64_w, i32_w]
    rfl
  refine pure_ (i := 1) (N := some 33) (v := ?_) (a' := ?_) #[true, true, false, false, false, false, false, false, false, false, false, false, false, false, false] rfl rfl (by kernel_rfl) (fun _ _ _ h => h) (Or.inl ⟨by rfl, ?_⟩) ?_ ?_
  rotate_left
  · intro w'
    go_simp
    with_reducible rfl
  rotate_left
  · simp only [Act.put, List.setIfInBounds_toArray, List.set_cons_zero, List.set_cons_succ, i64_w, i32_w]
    rfl
  refine pure_ (i := 2) (N := some 34) (v := ?_) (a' := ?_) #[true, true, true, false, false, false, false, false, false, false, false, false, false, false, false] rfl rfl (by kernel_rfl) (fun _ _ _ h => h) (Or.inl ⟨by rfl, ?_⟩) ?_ ?_
  rotate_left
  · intro w'
    go_simp
    with_reducible rfl
  rotate_left
  · simp only [Act.put, List.setIfInBounds_toArray, List.set_cons_zero, List.set_cons_succ, i64_w, i32_w]
    rfl
  refine pure_ (i := 3) (N := some 35) (v := ?_) (a' := ?_) #[true, true, true, true, false, false, false, false, false, false, false, false, false, false, false] rfl rfl (by kernel_rfl) (fun _ _ _ h => h) (Or.inl ⟨by rfl, ?_⟩) ?_ ?_
  rotate_left
  · intro w'
    go_simp
    with_reducible rfl
  rotate_left
  · simp only [Act.put, List.setIfInBounds_toArray, List.set_cons_zero, List.set_cons_succ, i64_w, i32_w]
    rfl
  refine pure_ (i := 5) (N := some 37) (v := ?_) (a' := ?_) #[true, true, true, true, false, true, false, false, false, false, false, false, false, false, false] rfl rfl (by kernel_rfl) (fun _ _ _ h => h) (Or.inl ⟨by rfl, ?_⟩) ?_ ?_
  rotate_left
  · intro w'
    go_simp
    with_reducible rfl
  rotate_left
  · simp only [Act.put, List.setIfInBounds_toArray, List.set_cons_zero, List.set_cons_succ, i64_w, i32_w]
    rfl
  refine pure_ (i := 6) (N := some 38) (v := ?_) (a' := ?_) #[true, true, true, true, false, true, true, false, false, false, false, false, false, false, false] rfl rfl (by kernel_rfl) (fun _ _ _ h => h) (Or.inl ⟨by rfl, ?_⟩) ?_ ?_
  rotate_left
  · intro w'
    go_simp
    with_reducible rfl
  rotate_left
  · simp only [Act.put, List.setIfInBounds_toArray, List.set_cons_zero, List.set_cons_succ, i64_w, i32_w]
    rfl
  refine pure_ (i := 8) (N := some 40) (v := ?_) (a' := ?_) #[true, true, true, true, false, true, true, false, true, false, false, false, false, false, false] rfl rfl (by kernel_rfl) (fun _ _ _ h => h) (Or.inl ⟨by rfl, ?_⟩) ?_ ?_
  rotate_left
  · intro w'
    go_simp
    with_reducible rfl
  rotate_left
  · simp only [Act.put, List.setIfInBounds_toArray, List.set_cons_zero, List.set_cons_succ, i64_w, i32_w]
    rfl
  refine take_ (i := 4) (N := some 36) (v := ?_) (a' := ?_) #[true, true, true, true, true, true, true, false, true, false, false, false, false, false, false] rfl rfl (by kernel_rfl) (fun _ _ _ h => h) (Or.inl ⟨by rfl, ?_⟩) hHeld ?_ ?_
  rotate_left
  · intro w' s0
    go_simp
    with_reducible rfl
  rotate_left
  · simp only [Act.put, List.setIfInBounds_toArray, List.set_cons_zero, List.set_cons_succ, i64_w, i32_w]
    rfl
  refine one_ (i := 7) (N := some 39) #[true, true, true, true, true, true, true, true, true, false, false, false, false, false, false] rfl rfl (by kernel_rfl) (by decide) (fun K hK => ?_)
  refine goes_ Tryz.func44 (by kernel_rfl) rfl #[.int .u64 y] (by rfl) rfl rfl (by simp only [List.map_toArray, List.map_cons, List.map_nil]; rfl) ?_
  with_reducible refine (cut_calls y _).mono ?_
  rintro e w3 ⟨rfl, rfl⟩
  refine ⟨_, rfl, ?_⟩
  refine hK.out _ _ (hc0) (fun hHeld => ?_)
  clear hK K
  refine norm_ (a' := ?_) ?_ ?_
  rotate_left
  · show Act.put _ (some 39) _ = _
    simp only [Act.put, List.setIfInBounds_toArray, List.set_cons_zero, List.set_cons_succ, i64_w, i32_w]
    rfl
  refine pure_ (i := 9) (N := some 41) (v := ?_) (a' := ?_) #[true, true, true, true, true, true, true, true, true, true, false, false, false, false, false] rfl rfl (by kernel_rfl) (fun _ _ _ h => h) (Or.inl ⟨by rfl, ?_⟩) ?_ ?_
  rotate_left
  · intro w'
    go_simp
    with_reducible rfl
  rotate_left
  · simp only [Act.put, List.setIfInBounds_toArray, List.set_cons_zero, List.set_cons_succ, i64_w, i32_w]
    rfl
  refine one_ (i := 10) (N := some 42) #[true, true, true, true, true, true, true, true, true, true, true, false, false, false, false] rfl rfl (by kernel_rfl) (by decide) (fun K hK => ?_)
  refine value_ (w1 := ?_) (v := ?_) (by rfl) rfl ?_ ?_
  rotate_left 2
  · go_simp
    constructor
    · rfl
    · rfl
  refine hK.out _ _ ((pw_cell_below (w := wd) (by repeat (first | exact Below.refl _ _ | apply below_alloc | apply pw_below_drewN | apply below_drew1)) hc0)) (fun hHeld => ?_)
  clear hK K
  refine norm_ (a' := ?_) ?_ ?_
  rotate_left
  · show Act.put _ (some 42) _ = _
    simp only [Act.put, List.setIfInBounds_toArray, List.set_cons_zero, List.set_cons_succ, i64_w, i32_w]
    rfl
  refine one_ (i := 11) (N := some 43) #[true, true, true, true, true, true, true, true, true, true, true, true, false, false, false] rfl rfl (by kernel_rfl) (by decide) (fun K hK => ?_)
  rw [show (wd.alloc (.cells #[.int .i64 f, .int .u64 (cutw y), .int .u64 x] 260)).drew = wd.drew.alloc (.cells #[.int .i64 f, .int .u64 (cutw y), .int .u64 x] 260) from rfl]
  refine Kd.R_append_step k46 (w0 := wd) Bo (by rfl) (.tmp 36) (.tmp 42) 116 260 (.agg #[.int .i64 0, .int .u64 0, .int .u64 0]) 24 rfl Tryz.underlying116 info46 rfl (by decide) (by omega) (.slice Aq es.length cq) es ⟨f, cutw y, x⟩ [.int .i64 f, .int .u64 (cutw y), .int .u64 x] (fun _ => True) (fun _ => False) rfl rfl (k46_mkM _ _ _ ⟨f, cutw y, x⟩) (fun _ hk => hk.elim) (fun _ _ => trivial) (Kd.R_below HR.out (by repeat (first | exact Below.refl _ _ | apply below_alloc | apply pw_below_drewN | apply below_drew1))) (Below.mono (by repeat (first | exact Below.refl _ _ | apply below_alloc | apply pw_below_drewN | apply below_drew1)) hBs) (by exact hBs) (by omega) ?_
  intro v2 w2 ho hbel hgrow hat
  obtain ⟨An, cn, rfl⟩ := Kd.R_slice ho
  have hbq : w2.heap[g]? = some (.cells #[.slice Aq es.length cq, .pointer (some ⟨gt, 0, none⟩)] 118 (0, 0)) := (hgrow.block g (by simpa using hgl) (Kd.R_ne HR.out HBK.out (by decide))).trans HBK.out
  have hcq := cell118_0 hbq
  have hfq := blk_frozen hbq 0
  have HO3 := Aside0.mk ho
  have HW2 := Aside0.mk hbel
  have HBQ := Aside0.mk hbq
  have HGR := Aside0.mk hgrow
  have HAT := Aside0.mk hat
  clear ho hbel hgrow hbq hat
  refine hK.out _ _ (hcq) (fun hHeld => ?_)
  clear hK K
  refine norm_ (a' := ?_) ?_ ?_
  rotate_left
  · show Act.put _ (some 43) _ = _
    simp only [Act.put, List.setIfInBounds_toArray, List.set_cons_zero, List.set_cons_succ, i64_w, i32_w]
    rfl
  refine pure_ (i := 12) (N := some 44) (v := ?_) (a' := ?_) #[true, true, true, true, true, true, true, true, true, true, true, true, true, false, false] rfl rfl (by kernel_rfl) (fun _ _ _ h => h) (Or.inl ⟨by rfl, ?_⟩) ?_ ?_
  rotate_left
  · intro w'
    go_simp
    with_reducible rfl
  rotate_left
  · simp only [Act.put, List.setIfInBounds_toArray, List.set_cons_zero, List.set_cons_succ, i64_w, i32_w]
    rfl
  refine pure_ (i := 13) (N := some 45) (v := ?_) (a' := ?_) #[true, true, true, true, true, true, true, true, true, true, true, true, true, true, false] rfl rfl (by kernel_rfl) (fun _ _ _ h => h) (Or.inl ⟨by rfl, ?_⟩) ?_ ?_
  rotate_left
  · intro w'
    go_simp
    with_reducible rfl
  rotate_left
  · simp only [Act.put, List.setIfInBounds_toArray, List.set_cons_zero, List.set_cons_succ, i64_w, i32_w]
    rfl
  refine last_ (i := 14) (N := none) #[true, true, true, true, true, true, true, true, true, true, true, true, true, true, true] rfl rfl (by kernel_rfl) (by decide) (fun K hK => ?_)
  refine skip_ (w1 := ?_) (by rfl) rfl ?_ ?_
  rotate_left
  · go_simp
    rfl
  refine hK.out _ _ ?_
  clear hK K
  refine done_ (by kernel_rfl) ?_


  go_wp2_with (fail)
  go_ret2
  have HS := Kd.R_set HO3.out HBQ.out (by intro q hq; simp [k46, Kd.iso, Kd.pair, Kd.int, Kd.scalar] at hq; omega) 0 (.slice An (es ++ [(⟨f, cutw y, x⟩ : S46)]).length cn)
  have hbS := blk_set HBQ.out 0 (.slice An (es ++ [(⟨f, cutw y, x⟩ : S46)]).length cn)
  obtain ⟨_, _, hg1, hg2, hg3, hg4, _, hT2⟩ := HO2.out
  have hw3 := HW2.out.size
  have hlen : (es ++ [(⟨f, cutw y, x⟩ : S46)]).length = es.length + 1 := by simp
  have hgm : min g gt ≤ g := Nat.min_le_left _ _
  have hgm2 : min g gt ≤ gt := Nat.min_le_right _ _
  refine ⟨rfl, .slice An (es ++ [(⟨f, cutw y, x⟩ : S46)]).length cn, ⟨by simpa using hbS, by simpa using HS, hg1, hg2, hg3, hg4, by simp [World.setCell]; omega, ?_⟩, ?_, ?_, ?_, ?_⟩
  · have hT3 := hT2.step (w1 := w2.setCell ⟨g, 0, none⟩ (.slice An (es ++ [(⟨f, cutw y, x⟩ : S46)]).length cn)) (fun k hk hlt => (Below.heap_setCell w2 ⟨g, 0, none⟩ _ k (by rcases hk with rfl | hk; exact fun h => hg3 h.symm; exact (hg4 k hk).2)).trans (HW2.out.block k (by rcases hk with rfl | hk; exact hg2; exact (hg4 k hk).1)))
    simpa using hT3
  · intro k hk hkg hkt hko
    have e1 := HB1.out.block k hk
    have e2 := HK2.out.2 k (by omega) hkt (by simp)
    have e3 : w2.heap[k]? = wd.heap[k]? := HGR.out.block k (by simpa using (show k < wd.heap.size by omega)) hko
    have e4 := Below.heap_setCell w2 ⟨g, 0, none⟩ (.slice An (es ++ [(⟨f, cutw y, x⟩ : S46)]).length cn) k hkg
    have := e4.trans (e3.trans (e2.trans e1))
    simpa using this
  · rcases HAT.out with h | ⟨b, h1, h2⟩
    · exact .inl h
    · exact .inr ⟨b, h1, by have h2' : wd.heap.size ≤ b := h2; omega⟩
  · have : (w2.setCell ⟨g, 0, none⟩ (.slice An (es ++ [(⟨f, cutw y, x⟩ : S46)]).length cn)).heap.size = w2.heap.size := by simp [World.setCell]
    simp [World.setCell]
    omega
  · have h1 : Below (min g gt) w w1 := HB1.out.mono (by have := blk_lt HO.out.1; omega)
    have h2 := h1.trans (HB2.out.mono hgm2)
    have h3 := h2.trans (HW2.out.mono (by omega))
    have h4 := h3.setCell (p := ⟨g, 0, none⟩) hgm (.slice An (es ++ [(⟨f, cutw y, x⟩ : S46)]).length cn)
    simpa using h4
end Go.Proofs.YtnphfcaokjdigaaGreatDoor.PA
