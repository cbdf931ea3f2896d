/- OracleSame, walked: asked the same again, in any order, all answers are the same, and nothing is drawn. -/
import Derived.Test.YtekcpffcgiahfaaH9
namespace Go.Proofs.Ytekcpffcgiahfaa.PA
open Go.RowKit Go.Proofs.YtekcpffcgiahfaaW.PrintWords Go.Proofs.YtekcpffcgiahfaaW.PrintLast Go.Proofs.YtekcpffcgiahfaaW.PrintMore
set_option linter.unusedVariables false
set_option linter.unusedSimpArgs false
theorem info40 : (Try.prog.info? 40).map (fun i => (i.zero, i.size, i.bytes)) = some (some (.agg #[.int .u64 0, .bool false]), 2, 16) := by kernel_rfl
/-- what Ask leaves as it was -/
def AskFrame (g gt : Nat) (v v1 : Value) (w w' : World) : Prop :=
  (∀ k, k < w.heap.size → k ≠ g → k ≠ gt → some k ≠ v.ownBlock → w'.heap[k]? = w.heap[k]?) ∧ (v1.ownBlock = v.ownBlock ∨ ∃ b, v1.ownBlock = some b ∧ w.heap.size ≤ b) ∧ w.heap.size ≤ w'.heap.size ∧ Below (min g gt) w w'
/-- Ask, as the laws call it -/
theorem ask_tell (w : World) (g gt B : Nat) (v : Value) (okT : Nat → Prop) (es : List S46) (xs : List Int) (n : Nat) (a b : Int) (T : Told) (ha : 0 ≤ a ∧ a < 256) (hT : askO (a % 2) (asked b) es xs n = T) (hl : es.length ≤ 10) (h : IsOracle w g gt B v okT es xs n) :
    Calls Try.prog 10 #[.pointer (some ⟨g, 0, none⟩), .int .i64 (wrap64 (a.tmod 2)), .int .u64 (asked b)] w fun e w' => e = .returned (.tuple #[.int .u64 T.out, errV T.ok]) ∧
      ∃ v1, IsOracle w' g gt B v1 okT T.es xs T.n ∧ AskFrame g gt v v1 w w' := by
  have hm : wrap64 (a.tmod 2) = a % 2 := by
    rw [Int.tmod_eq_emod_of_nonneg ha.1]
    unfold wrap64
    omega
  rw [hm]
  subst hT
  exact ask_any w g gt B v okT es xs n (a % 2) (asked b) h hl
theorem askO_grow {f y : Int} {es : List S46} {xs : List Int} {n : Nat} {T : Told} (h : askO f y es xs n = T) : (∃ r, T.es = es ++ r) ∧ (T.ok = true → knownIn f (cutw y) T.es = (T.out, true)) ∧ (n = xs.length → T.n = n ∧ T.es = es) ∧ (T.ok = false → n ≤ xs.length → n = xs.length) ∧ ((knownIn f (cutw y) es).2 = true → T = ⟨(knownIn f (cutw y) es).1, true, es, n⟩) := by
  unfold askO at h
  by_cases hk : (knownIn f (cutw y) es).2 = true
  · rw [if_pos hk] at h
    subst h
    exact ⟨⟨[], by simp⟩, fun _ => by show knownIn f (cutw y) es = _; rw [← hk], fun _ => ⟨rfl, rfl⟩, fun h => by simp at h, fun _ => rfl⟩
  · rw [if_neg hk] at h
    by_cases hn : n < xs.length
    · rw [if_pos hn] at h
      subst h
      exact ⟨⟨_, rfl⟩, fun _ => knownIn_last hk, fun h => by omega, fun h => by simp at h, fun h => absurd h hk⟩
    · rw [if_neg hn] at h
      subst h
      exact ⟨⟨[], by simp⟩, fun h => by simp at h, fun _ => ⟨rfl, rfl⟩, fun _ h => by omega, fun h => absurd h hk⟩
/-- what was told of the first k questions, against the answers -/
def Tells (qs : List S32) (es : List S46) (ys : List Int) (n : Nat) (ts : List S40) (k : Nat) : Prop :=
  ts.length = k ∧ ∀ j, j < k → ((ts.getD j z40).f1 = true → knownIn ((qs.getD j z32).f0 % 2) (cutw (asked (qs.getD j z32).f1)) es = ((ts.getD j z40).f0, true)) ∧ ((ts.getD j z40).f1 = false → n = ys.length)
theorem Tells.step {qs : List S32} {es : List S46} {ys : List Int} {n k : Nat} {ts : List S40} (h : Tells qs es ys n ts k) (hn : n ≤ ys.length) {T : Told} (hT : askO ((qs.getD k z32).f0 % 2) (asked (qs.getD k z32).f1) es ys n = T) : Tells qs T.es ys T.n (ts ++ [⟨T.out, T.ok⟩]) (k + 1) := by
  obtain ⟨⟨r, h1⟩, h2, h3, h4, _⟩ := askO_grow hT
  obtain ⟨hl, hj⟩ := h
  refine ⟨by simp [hl], fun j hjk => ?_⟩
  by_cases e : j = k
  · subst e
    have : (ts ++ [(⟨T.out, T.ok⟩ : S40)]).getD j z40 = ⟨T.out, T.ok⟩ := by simp [List.getD_eq_getElem?_getD, hl.symm]
    rw [this]
    exact ⟨fun h => h2 h, fun h => by have := h4 h hn; have h5 := (h3 this).1; omega⟩
  · have : (ts ++ [(⟨T.out, T.ok⟩ : S40)]).getD j z40 = ts.getD j z40 := by
      simp only [List.getD_eq_getElem?_getD]
      rw [List.getElem?_append_left (by omega)]
    rw [this]
    obtain ⟨p1, p2⟩ := hj j (by omega)
    refine ⟨fun h => ?_, fun h => by have := p2 h; have h5 := (h3 this).1; omega⟩
    rw [h1, knownIn_append (by rw [p1 h])]
    exact p1 h
theorem Tells.again {qs : List S32} {es : List S46} {ys : List Int} {n k : Nat} {ts : List S40} (h : Tells qs es ys n ts k) {j : Nat} (hj : j < k) {T : Told} (hT : askO ((qs.getD j z32).f0 % 2) (asked (qs.getD j z32).f1) es ys n = T) : T.es = es ∧ T.n = n ∧ ((ts.getD j z40).f1 = true → T.out = (ts.getD j z40).f0 ∧ T.ok = true) := by
  obtain ⟨_, _, h3, _, h5⟩ := askO_grow hT
  obtain ⟨p1, p2⟩ := h.2 j hj
  cases hb : (ts.getD j z40).f1 with
  | true =>
    have hk := p1 hb
    have := h5 (by rw [hk])
    rw [hk] at this
    subst this
    exact ⟨rfl, rfl, fun _ => ⟨rfl, rfl⟩⟩
  | false =>
    have := h3 (p2 hb)
    exact ⟨this.2, this.1, fun h => by simp at h⟩
/-- a slice of the call's own, whose elements are of another type, is as it was behind Ask -/
theorem R_ask {g gt B : Nat} {v v1 u : Value} {okT : Nat → Prop} {es : List S46} {xs : List Int} {n : Nat} {w w' : World} {ts : List S40} (h : IsOracle w g gt B v okT es xs n) (hR : Kd.R k40 40 w B (fun _ => True) u ts) (hf : AskFrame g gt v v1 w w') : Kd.R k40 40 w' B (fun _ => True) u ts := by
  refine Kd.R_mono (Kd.R_step (Kd.R_tight rfl hR) (fun k hk hlt => ?_)) (fun _ _ => trivial)
  have hb := Kd.R_base hR k hk.symm
  obtain ⟨cells, hcb⟩ := Kd.R_typed hR k hk.symm
  refine hf.1 k hlt (by have := h.2.2.1; omega) (by have := h.2.2.2.1; omega) (Kd.R_ne h.own hcb (by decide))
/-- the oracle is as it was behind an append to such a slice -/
theorem IsOracle.grow {g gt B : Nat} {v u : Value} {okT : Nat → Prop} {es : List S46} {xs : List Int} {n : Nat} {w w' : World} {ts : List S40} (h : IsOracle w g gt B v okT es xs n) (hR : Kd.R k40 40 w B (fun _ => True) u ts) (hg : w.grownBy w' u.ownBlock) : IsOracle w' g gt B v okT es xs n := by
  refine h.step (fun k hk hlt => hg.block k hlt ?_) hg.size
  have h1 := h.2.2.1
  have h2 := h.2.2.2.1
  have h3 := h.2.2.2.2.2.1
  rcases hk with rfl | rfl | hk | hk
  · intro e
    have := Kd.R_base hR _ e.symm
    omega
  · intro e
    have := Kd.R_base hR _ e.symm
    omega
  · intro e
    have := Kd.R_base hR _ e.symm
    have := h3 k hk
    omega
  · obtain ⟨cells, hcb⟩ := Kd.R_typed h.own k hk.symm
    exact Kd.R_ne hR hcb (by decide)
set_option maxHeartbeats 3200000 in
set_option maxRecDepth 100000 in
theorem same_walk (xs : List Int) (A : Option Addr) (c : Nat) (qs : List S32) (A2 : Option Addr) (c2 : Nat) (W : World) (hC : Kd.C (Kd.int .u64) W A xs.length xs) (hsize : xs.length * 8 ≤ 140737488351232) (hC2 : Kd.C k32 W A2 qs.length qs) (hr : ∀ q ∈ qs, (0 ≤ q.f0 ∧ q.f0 < 256) ∧ 0 ≤ q.f1 ∧ q.f1 < 18446744073709551616) (hsize2 : qs.length * 16 ≤ 140737488351232) :
    Calls Try.prog 3 #[.slice A xs.length c, .slice A2 qs.length c2] W fun e w' => e = .returned (.bool true) ∧ Below W.heap.size W w' := by
  have HC := Aside0.mk hC
  have HC2 := Aside0.mk hC2
  have hqn := hC2.2.1
  have HRQ := Aside0.mk hr
  clear hC hC2 hr
  go_enter Try.func3, Try.ntmps3
  go_wp2_with (fail)
  refine (awake_calls W).mono ?_
  rintro e w1 ⟨rfl, HB1⟩
  go_wp2_with (fail)
  refine (of_calls w1 A c xs (Kd.C_below HC.out HB1) hsize).mono ?_
  rintro e w2 ⟨gt, rfl, hgt, hT, HB2⟩
  have hgt' := Nat.le_trans HB1.size hgt
  have HB := Aside0.mk (HB1.trans (HB2.mono HB1.size))
  generalize xs.map cutw = ys at hT
  clear HB1 HB2 hgt
  go_wp2_with (fail)
  refine (oof_calls w2 gt _ ys _ hT).mono ?_
  rintro e w3 ⟨g, B, rfl, hg, hO, _, HB1⟩
  replace hg := Nat.le_trans HB.out.size hg
  replace HB := Aside0.mk (HB.out.trans (HB1.mono HB.out.size))
  have hmin : W.heap.size ≤ min g gt := Nat.le_min.2 ⟨hg, hgt'⟩
  have HMIN := Aside0.mk hmin
  have HWB := Aside0.mk (show W.heap.size ≤ B from Nat.le_trans hg (Nat.le_of_lt hO.2.2.1))
  generalize hokT : (fun k => (w1.heap.size ≤ k ∧ k ≠ gt) ∧ k < w2.heap.size) = okT at hO
  have HO := Aside0.mk (show ∃ v es n ts, IsOracle w3 g gt B v okT es ys n ∧ Fine es ∧ Tells qs es ys n ts 0 ∧ Kd.R k40 40 w3 B (fun _ => True) (.slice none 0 0) ts from ⟨_, [], 0, [], hO, Fine.nil, ⟨rfl, fun j hj => absurd hj (Nat.not_lt_zero j)⟩, Kd.R_nil _ _ _ _ _⟩)
  clear hT hO HB1 hokT hg hgt' hmin
  go_wp2_with (fail)
  go_loopw [6, 22] (fun v6 iv wr => ∃ k : Nat, k ≤ qs.length ∧ iv = .int .i64 k ∧ Aside0 (∃ v es n ts, IsOracle wr g gt B v okT es ys n ∧ Fine es ∧ Tells qs es ys n ts k ∧ Kd.R k40 40 wr B (fun _ => True) v6 ts) ∧ Aside0 (Below W.heap.size W wr)) (fun _ iv _ => qs.length - (intOf iv).toNat)
  case atStart => exact ⟨0, Nat.zero_le _, rfl, HO, HB⟩
  case round =>
    clear HO HB
    obtain ⟨k, hk, rfl, HO, HB⟩ := hrel
    by_cases hlt : k < qs.length
    · obtain ⟨ad, hA, hx0, hx1⟩ := at_T32 HC2.out (k : Int) (by omega) (by omega)
      replace hx0 := pw_cell_below HB.out hx0
      replace hx1 := pw_cell_below HB.out hx1
      cases hA
      rw [Int.toNat_natCast] at hx0 hx1
      have hqe : rd_T32 qs (k : Int) = qs.getD k z32 := by simp [rd_T32]
      rw [hqe] at hx0 hx1
      have hq : qs.getD k z32 ∈ qs := by
        have : qs.getD k z32 = qs[k] := by simp [List.getD_eq_getElem?_getD, List.getElem?_eq_getElem hlt]
        rw [this]
        exact List.getElem_mem hlt
      have hrq := HRQ.out _ hq
      obtain ⟨v, es, n, ts, hO, hF, hTe, hR⟩ := HO.out
      obtain ⟨T, hT⟩ : ∃ T, askO ((qs.getD k z32).f0 % 2) (asked (qs.getD k z32).f1) es ys n = T := ⟨_, rfl⟩
      have HTS := Aside0.mk (hTe.step hO.tape.le hT)
      have HFS := Aside0.mk (show Fine T.es from by rw [← hT]; exact hF.ask _ _ hrq.2.1 ys n)
      have htl := hTe.1
      generalize qs.getD k z32 = q0 at hx0 hx1 hrq hT
      obtain ⟨a, b⟩ := q0
      obtain ⟨ha, hb0, hb1⟩ := hrq
      simp only [] at hx0 hx1 hT
      have ha : 0 ≤ a ∧ a < 256 := ha
      have hb0 : 0 ≤ b := hb0
      have hb1 : b < 18446744073709551616 := hb1
      clear hq hqe
      have hlt' : (k : Int) < (qs.length : Int) := by omega
      have hbel := (Below.refl wr.heap.size wr).alloc (Nat.le_refl _) (.cells #[.int .u8 a, .int .u64 b] 32)
      have HOq := Aside0.mk (hO.below hbel)
      have HRq := Aside0.mk (Kd.R_below hR hbel)
      have HBq := Aside0.mk (HB.out.trans (hbel.mono HB.out.size))
      have HASK := Aside0.mk (fun w3 h => ask_tell w3 g gt B v okT es ys n a b T ha hT hF.le h)
      have hbq : (wr.alloc (.cells #[.int .u8 a, .int .u64 b] 32)).heap[wr.heap.size]? = some (.cells #[.int .u8 a, .int .u64 b] 32 (0, 0)) := by simpa using heap_alloc_new wr _
      have hq0 : (wr.alloc (.cells #[.int .u8 a, .int .u64 b] 32)).cell? ⟨wr.heap.size, 0, none⟩ = some (.int .u8 a) := (blk_cell hbq 0).trans rfl
      have hq1 : (wr.alloc (.cells #[.int .u8 a, .int .u64 b] 32)).cell? ⟨wr.heap.size, 1, none⟩ = some (.int .u64 b) := (blk_cell hbq 1).trans rfl
      clear hO hbel HB HO hF hTe hR hT hbq
      go_wp2_with (fail)
      generalize wr.alloc (.cells #[.int .u8 a, .int .u64 b] 32) = wq at HOq HBq HRq hq0 hq1 ⊢
      generalize wr.heap.size = q at hq0 hq1 ⊢
      refine start_ (n := 13) (S := fun w' => w'.cell? ⟨q, 0, none⟩ = some (.int .u8 a) ∧ w'.cell? ⟨q, 1, none⟩ = some (.int .u64 b)) (ds := [7]) #[false, false, false, false, false, false, false, false, false, false, false, false, false] (by kernel_rfl) rfl rfl ⟨hq0, hq1⟩ (fun hHeld => ?_)
      refine pure_ (i := 0) (N := some 27) (v := ?_) (a' := ?_) #[true, false, false, false, false, false, false, false, false, false, false, false, false] rfl rfl (by kernel_rfl) (fun _ _ _ h => h) (Or.inl ⟨by rfl, ?_⟩) ?_ ?_
      rotate_left
      · intro w'
        go_simp
        with_reducible rfl
      rotate_left
      · simp only [Act.put, List.setIfInBounds_toArray, List.set_cons_zero, List.set_cons_succ, i64_w, i32_w]
        rfl
      refine pure_ (i := 1) (N := some 28) (v := ?_) (a' := ?_) #[true, true, false, false, false, false, false, false, false, false, false, false, false] rfl rfl (by kernel_rfl) (fun _ _ _ h => h) (Or.inl ⟨by rfl, ?_⟩) ?_ ?_
      rotate_left
      · intro w'
        go_simp
        with_reducible rfl
      rotate_left
      · simp only [Act.put, List.setIfInBounds_toArray, List.set_cons_zero, List.set_cons_succ, i64_w, i32_w]
        rfl
      refine take_ (i := 2) (N := some 29) (v := ?_) (a' := ?_) #[true, true, true, false, false, false, false, false, false, false, false, false, false] rfl rfl (by kernel_rfl) (fun _ _ _ h => h) (Or.inl ⟨by rfl, ?_⟩) hHeld ?_ ?_
      rotate_left
      · rintro w' ⟨s0, s1⟩
        go_simp
        with_reducible rfl
      rotate_left
      · simp only [Act.put, List.setIfInBounds_toArray, List.set_cons_zero, List.set_cons_succ, i64_w, i32_w]
        rfl
      refine pure_ (i := 3) (N := some 30) (v := ?_) (a' := ?_) #[true, true, true, true, false, false, false, false, false, false, false, false, false] rfl rfl (by kernel_rfl) (fun _ _ _ h => h) (Or.inl ⟨by rfl, ?_⟩) ?_ ?_
      rotate_left
      · intro w'
        go_simp
        with_reducible rfl
      rotate_left
      · simp only [Act.put, List.setIfInBounds_toArray, List.set_cons_zero, List.set_cons_succ, i64_w, i32_w]
        rfl
      refine pure_ (i := 4) (N := some 31) (v := ?_) (a' := ?_) #[true, true, true, true, true, false, false, false, false, false, false, false, false] rfl rfl (by kernel_rfl) (fun _ _ _ h => h) (Or.inl ⟨by rfl, ?_⟩) ?_ ?_
      rotate_left
      · intro w'
        go_simp
        with_reducible rfl
      rotate_left
      · simp only [Act.put, List.setIfInBounds_toArray, List.set_cons_zero, List.set_cons_succ, i64_w, i32_w]
        rfl
      refine take_ (i := 5) (N := some 32) (v := ?_) (a' := ?_) #[true, true, true, true, true, true, false, false, false, false, false, false, false] rfl rfl (by kernel_rfl) (fun _ _ _ h => h) (Or.inl ⟨by rfl, ?_⟩) hHeld ?_ ?_
      rotate_left
      · rintro w' ⟨s0, s1⟩
        go_simp
        with_reducible rfl
      rotate_left
      · simp only [Act.put, List.setIfInBounds_toArray, List.set_cons_zero, List.set_cons_succ, i64_w, i32_w]
        rfl
      refine one_ (i := 6) (N := some 33) #[true, true, true, true, true, true, true, false, false, false, false, false, false] rfl rfl (by kernel_rfl) (by decide) (fun K hK => ?_)
      refine goes_ Try.func11 (by kernel_rfl) rfl #[.agg #[.int .u8 a, .int .u64 b]] (by rfl) rfl rfl (by simp only [List.map_toArray, List.map_cons, List.map_nil]; rfl) ?_
      with_reducible refine (in_calls a b hb0 _).mono ?_
      rintro e w3 ⟨rfl, hb3⟩
      refine ⟨_, rfl, ?_⟩
      have HB3 := Aside0.mk hb3
      clear hb3
      refine hK.out _ _ ⟨(pw_cell_below HB3.out hq0), (pw_cell_below HB3.out hq1)⟩ (fun hHeld => ?_)
      clear hK K
      refine norm_ (a' := ?_) ?_ ?_
      rotate_left
      · show Act.put _ (some 33) _ = _
        simp only [Act.put, List.setIfInBounds_toArray, List.set_cons_zero, List.set_cons_succ, i64_w, i32_w]
        rfl
      refine last_ (i := 7) (N := some 34) #[true, true, true, true, true, true, true, true, false, false, false, false, false] rfl rfl (by kernel_rfl) (by decide) (fun K hK => ?_)
      refine goes_ Try.func10 (by kernel_rfl) rfl #[.pointer (some ⟨g, 0, none⟩), .int .i64 (wrap64 (a.tmod 2)), .int .u64 (asked b)] (by rfl) rfl rfl (by simp only [List.map_toArray, List.map_cons, List.map_nil]; rfl) ?_
      with_reducible refine (HASK.out w3 (IsOracle.below (IsOracle.below HOq.out (w1 := wq.drew) (by repeat (first | exact Below.refl _ _ | apply below_alloc | apply pw_below_drewN | apply below_drew1))) HB3.out)).mono ?_
      rintro e w4 ⟨rfl, hO4⟩
      refine ⟨_, rfl, ?_⟩
      have HO4 := Aside0.mk hO4
      clear hO4
      refine hK.out _ _ ?_
      clear hK K
      refine norm_ (a' := ?_) ?_ ?_
      rotate_left
      · show Act.put _ (some 34) _ = _
        simp only [Act.put, List.setIfInBounds_toArray, List.set_cons_zero, List.set_cons_succ, i64_w, i32_w]
        rfl
      refine pure_ (i := 8) (N := some 26) (v := ?_) (a' := ?_) #[true, true, true, true, true, true, true, true, true, false, false, false, false] rfl rfl (by kernel_rfl) (fun _ _ _ h => h) (Or.inl ⟨by rfl, ?_⟩) ?_ ?_
      rotate_left
      · intro w'
        go_simp
        with_reducible rfl
      rotate_left
      · simp only [Act.put, List.setIfInBounds_toArray, List.set_cons_zero, List.set_cons_succ, i64_w, i32_w]
        rfl
      refine pure_ (i := 9) (N := some 35) (v := ?_) (a' := ?_) #[true, true, true, true, true, true, true, true, true, true, false, false, false] rfl rfl (by kernel_rfl) (fun _ _ _ h => h) (Or.inl ⟨by rfl, ?_⟩) ?_ ?_
      rotate_left
      · intro w'
        go_simp
        with_reducible rfl
      rotate_left
      · simp only [Act.put, List.setIfInBounds_toArray, List.set_cons_zero, List.set_cons_succ, i64_w, i32_w]
        rfl
      refine pure_ (i := 10) (N := some 36) (v := ?_) (a' := ?_) #[true, true, true, true, true, true, true, true, true, true, true, false, false] rfl rfl (by kernel_rfl) (fun _ _ _ h => h) (Or.inl ⟨by rfl, ?_⟩) ?_ ?_
      rotate_left
      · intro w'
        go_simp
        with_reducible rfl
      rotate_left
      · simp only [Act.put, List.setIfInBounds_toArray, List.set_cons_zero, List.set_cons_succ, i64_w, i32_w]
        rfl
      refine pure_ (i := 11) (N := some 9) (v := ?_) (a' := ?_) #[true, true, true, true, true, true, true, true, true, true, true, true, false] rfl rfl (by kernel_rfl) (fun _ _ _ h => h) (Or.inl ⟨by rfl, ?_⟩) ?_ ?_
      rotate_left
      · intro w'
        go_simp
        with_reducible rfl
      rotate_left
      · simp only [Act.put, List.setIfInBounds_toArray, List.set_cons_zero, List.set_cons_succ, i64_w, i32_w]
        rfl
      refine pure_ (i := 12) (N := some 10) (v := ?_) (a' := ?_) #[true, true, true, true, true, true, true, true, true, true, true, true, true] rfl rfl (by kernel_rfl) (fun _ _ _ h => h) (Or.inl ⟨by rfl, ?_⟩) ?_ ?_
      rotate_left
      · intro w'
        go_simp
        with_reducible rfl
      rotate_left
      · simp only [Act.put, List.setIfInBounds_toArray, List.set_cons_zero, List.set_cons_succ, i64_w, i32_w]
        rfl
      refine done_ (by kernel_rfl) ?_


      obtain ⟨v1, hO4, hF4⟩ := HO4.out
      have hBd : Below wq.heap.size wq wq.drew := by repeat (first | exact Below.refl _ _ | apply below_drew1)
      have HR4 := Aside0.mk (R_ask (IsOracle.below (IsOracle.below HOq.out hBd) HB3.out) (Kd.R_below (Kd.R_below HRq.out hBd) HB3.out) hF4)
      have HB4 := Aside0.mk (HBq.out.trans ((hBd.mono HBq.out.size).trans ((HB3.out.mono HBq.out.size).trans (hF4.2.2.2.mono HMIN.out))))
      have HO5 := Aside0.mk hO4
      have hBs := hO4.2.2.2.2.2.2.1
      obtain ⟨A6, c6, rfl⟩ := Kd.R_slice HR4.out
      have hap : (ts.length + 1) * 16 ≤ 140737488355328 := by omega
      clear hO4 hF4 HO4 hBd HASK hq0 hq1 hx0 hx1 HRq HBq HB3 htl
      obtain ⟨o1, ok1, es1, n1⟩ := T
      simp only [] at HTS HFS HO5 ⊢
      cases ok1
      · simp only [errV]
        go_wp2_with (first | (at_builtin; refine Kd.R_append k40 (w0 := w4) B rfl (.tmp 37) (.tmp 42) 29 40 (.agg #[.int .u64 0, .bool false]) 16 rfl Try.underlying29 info40 rfl (by decide) (by omega) (.slice A6 ts.length c6) ts ⟨o1, _⟩ _ (fun _ => True) (fun _ => False) rfl rfl (k40_mkM _ _ _ ⟨o1, _⟩) (fun _ hk => hk.elim) (fun _ _ => trivial) HR4.out (Below.refl _ _) hBs (by omega) ?_; intro v5 w5 ho hb hg5 hat; have HR5 := Aside0.mk ho; have HW5 := Aside0.mk hb; have HO6 := Aside0.mk (HO5.out.grow HR4.out hg5); clear ho hb hg5 hat) | fail)
        go_roundw
        case rel => exact ⟨k + 1, hlt, by simp, ⟨_, _, _, _, HO6.out, HFS.out, HTS.out, HR5.out⟩, ⟨HB4.out.trans (HW5.out.mono HWB.out)⟩⟩
        case measure => simp [intOf]; omega
      · simp only [errV]
        go_wp2_with (first | (at_builtin; refine Kd.R_append k40 (w0 := w4) B rfl (.tmp 37) (.tmp 42) 29 40 (.agg #[.int .u64 0, .bool false]) 16 rfl Try.underlying29 info40 rfl (by decide) (by omega) (.slice A6 ts.length c6) ts ⟨o1, _⟩ _ (fun _ => True) (fun _ => False) rfl rfl (k40_mkM _ _ _ ⟨o1, _⟩) (fun _ hk => hk.elim) (fun _ _ => trivial) HR4.out (Below.refl _ _) hBs (by omega) ?_; intro v5 w5 ho hb hg5 hat; have HR5 := Aside0.mk ho; have HW5 := Aside0.mk hb; have HO6 := Aside0.mk (HO5.out.grow HR4.out hg5); clear ho hb hg5 hat) | fail)
        go_roundw
        case rel => exact ⟨k + 1, hlt, by simp, ⟨_, _, _, _, HO6.out, HFS.out, HTS.out, HR5.out⟩, ⟨HB4.out.trans (HW5.out.mono HWB.out)⟩⟩
        case measure => simp [intOf]; omega
    · obtain rfl : k = qs.length := by omega
      obtain ⟨v, es, n, ts, hO, hF, hTe, hR⟩ := HO.out
      have HFI := Aside0.mk hF
      have HTE := Aside0.mk hTe
      have htl := hTe.1
      have HOb := Aside0.mk hO
      have HRb := Aside0.mk hR
      obtain ⟨A6, c6, rfl⟩ := Kd.R_slice hR
      clear hO HO hF hTe hR
      go_wp2_with (fail)
      refine (oleft_calls _ g gt B v okT es ys n HOb.out).mono ?_
      rintro e w4 ⟨rfl, hB4⟩
      have HO4 := Aside0.mk (show ∃ v, IsOracle w4 g gt B v okT es ys n from ⟨v, HOb.out.below hB4⟩)
      have HR4 := Aside0.mk (Kd.R_below HRb.out hB4)
      have HB4 := Aside0.mk (HB.out.trans (hB4.mono HB.out.size))
      have wl : wrap64 ((qs.length : Int) - 1) = (qs.length : Int) - 1 := by unfold wrap64; omega
      clear hB4 HOb HRb HB
      go_wp2_with (fail)
      go_loopw [12] (fun iv wr => ∃ j : Nat, j ≤ qs.length ∧ iv = .int .i64 ((j : Int) - 1) ∧ Aside0 (∃ v, IsOracle wr g gt B v okT es ys n) ∧ Aside0 (Kd.R k40 40 wr B (fun _ => True) (.slice A6 ts.length c6) ts) ∧ Aside0 (Below W.heap.size W wr)) (fun iv _ => (intOf iv + 1).toNat)
      case atStart => exact ⟨qs.length, Nat.le_refl _, rfl, HO4, HR4, HB4⟩
      case round =>
        clear HO4 HR4 HB4
        obtain ⟨j, hj, rfl, HO, HR, HB⟩ := hrel
        by_cases hj0 : j = 0
        · subst hj0
          obtain ⟨v, hO⟩ := HO.out
          have hneg : ((0 : Nat) : Int) - 1 = -1 := by omega
          rw [hneg]
          go_wp2_with (fail)
          refine (oleft_calls _ g gt B v okT es ys n hO).mono ?_
          rintro e w5 ⟨rfl, hB5⟩
          have HB5 := Aside0.mk (HB.out.trans (hB5.mono HB.out.size))
          clear hB5
          go_wp2_with (fail)
          go_ret
          exact ⟨rfl, HB5.out⟩
        · obtain ⟨i, rfl⟩ : ∃ i, j = i + 1 := ⟨j - 1, by omega⟩
          have hi1 : ((i + 1 : Nat) : Int) - 1 = (i : Int) := by omega
          rw [hi1]
          have hiq : i < qs.length := by omega
          have hiq' : (i : Int) < (qs.length : Int) := by omega
          have wi : wrap64 ((i : Int) - 1) = (i : Int) - 1 := by unfold wrap64; omega
          obtain ⟨ad, hA, hq0, hq1⟩ := at_T32 HC2.out (i : Int) (by omega) (by omega)
          replace hq0 := pw_cell_below HB.out hq0
          replace hq1 := pw_cell_below HB.out hq1
          cases hA
          rw [Int.toNat_natCast, show rd_T32 qs (i : Int) = qs.getD i z32 by simp [rd_T32]] at hq0 hq1
          have hq : qs.getD i z32 ∈ qs := by
            have : qs.getD i z32 = qs[i] := by simp [List.getD_eq_getElem?_getD, List.getElem?_eq_getElem hiq]
            rw [this]
            exact List.getElem_mem hiq
          have hrq := HRQ.out _ hq
          obtain ⟨v, hO⟩ := HO.out
          obtain ⟨T, hT⟩ : ∃ T, askO ((qs.getD i z32).f0 % 2) (asked (qs.getD i z32).f1) es ys n = T := ⟨_, rfl⟩
          have HAG := Aside0.mk (HTE.out.again hiq hT)
          generalize qs.getD i z32 = q0 at hq0 hq1 hrq hT
          obtain ⟨a, b⟩ := q0
          obtain ⟨ha, hb0, hb1⟩ := hrq
          simp only [] at hq0 hq1 hT
          have ha : 0 ≤ a ∧ a < 256 := ha
          have hb0 : 0 ≤ b := hb0
          have hb1 : b < 18446744073709551616 := hb1
          have HOq := Aside0.mk hO
          have HASK := Aside0.mk (fun w3 h => ask_tell w3 g gt B v okT es ys n a b T ha hT HFI.out.le h)
          clear hO HO hq hT
          go_wp2_with (fail)
          refine start_ (n := 19) (S := fun w' => w'.cell? (ad.add (i * 2)) = some (.int .u8 a) ∧ w'.cell? ⟨(ad.add (i * 2)).block, (ad.add (i * 2)).off + 1, none⟩ = some (.int .u64 b)) (ds := [13]) #[false, false, false, false, false, false, false, false, false, false, false, false, false, false, false, false, false, false, false] (by kernel_rfl) rfl rfl ⟨hq0, hq1⟩ (fun hHeld => ?_)
          refine pure_ (i := 0) (N := some 55) (v := ?_) (a' := ?_) #[true, false, false, false, false, false, false, false, false, false, false, false, false, false, false, false, false, false, false] rfl rfl (by kernel_rfl) (fun _ _ _ h => h) (Or.inl ⟨by rfl, ?_⟩) ?_ ?_
          rotate_left
          · intro w'
            go_simp
            with_reducible rfl
          rotate_left
          · simp only [Act.put, List.setIfInBounds_toArray, List.set_cons_zero, List.set_cons_succ, i64_w, i32_w]
            rfl
          refine pure_ (i := 1) (N := some 56) (v := ?_) (a' := ?_) #[true, true, false, false, false, false, false, false, false, false, false, false, false, false, false, false, false, false, false] rfl rfl (by kernel_rfl) (fun _ _ _ h => h) (Or.inl ⟨by rfl, ?_⟩) ?_ ?_
          rotate_left
          · intro w'
            go_simp
            with_reducible rfl
          rotate_left
          · simp only [Act.put, List.setIfInBounds_toArray, List.set_cons_zero, List.set_cons_succ, i64_w, i32_w]
            rfl
          refine pure_ (i := 2) (N := some 57) (v := ?_) (a' := ?_) #[true, true, true, false, false, false, false, false, false, false, false, false, false, false, false, false, false, false, false] rfl rfl (by kernel_rfl) (fun _ _ _ h => h) (Or.inl ⟨by rfl, ?_⟩) ?_ ?_
          rotate_left
          · intro w'
            go_simp
            with_reducible rfl
          rotate_left
          · simp only [Act.put, List.setIfInBounds_toArray, List.set_cons_zero, List.set_cons_succ, i64_w, i32_w]
            rfl
          refine pure_ (i := 3) (N := some 58) (v := ?_) (a' := ?_) #[true, true, true, true, false, false, false, false, false, false, false, false, false, false, false, false, false, false, false] rfl rfl (by kernel_rfl) (fun _ _ _ h => h) (Or.inl ⟨by rfl, ?_⟩) ?_ ?_
          rotate_left
          · intro w'
            go_simp
            with_reducible rfl
          rotate_left
          · simp only [Act.put, List.setIfInBounds_toArray, List.set_cons_zero, List.set_cons_succ, i64_w, i32_w]
            rfl
          refine pure_ (i := 4) (N := some 59) (v := ?_) (a' := ?_) #[true, true, true, true, true, false, false, false, false, false, false, false, false, false, false, false, false, false, false] rfl rfl (by kernel_rfl) (fun _ _ _ h => h) (Or.inl ⟨by rfl, ?_⟩) ?_ ?_
          rotate_left
          · intro w'
            go_simp
            with_reducible rfl
          rotate_left
          · simp only [Act.put, List.setIfInBounds_toArray, List.set_cons_zero, List.set_cons_succ, i64_w, i32_w]
            rfl
          refine pure_ (i := 8) (N := some 63) (v := ?_) (a' := ?_) #[true, true, true, true, true, false, false, false, true, false, false, false, false, false, false, false, false, false, false] rfl rfl (by kernel_rfl) (fun _ _ _ h => h) (Or.inl ⟨by rfl, ?_⟩) ?_ ?_
          rotate_left
          · intro w'
            go_simp
            with_reducible rfl
          rotate_left
          · simp only [Act.put, List.setIfInBounds_toArray, List.set_cons_zero, List.set_cons_succ, i64_w, i32_w]
            rfl
          refine pure_ (i := 9) (N := some 64) (v := ?_) (a' := ?_) #[true, true, true, true, true, false, false, false, true, true, false, false, false, false, false, false, false, false, false] rfl rfl (by kernel_rfl) (fun _ _ _ h => h) (Or.inl ⟨by rfl, ?_⟩) ?_ ?_
          rotate_left
          · intro w'
            go_simp
            with_reducible rfl
          rotate_left
          · simp only [Act.put, List.setIfInBounds_toArray, List.set_cons_zero, List.set_cons_succ, i64_w, i32_w]
            rfl
          refine pure_ (i := 10) (N := some 65) (v := ?_) (a' := ?_) #[true, true, true, true, true, false, false, false, true, true, true, false, false, false, false, false, false, false, false] rfl rfl (by kernel_rfl) (fun _ _ _ h => h) (Or.inl ⟨by rfl, ?_⟩) ?_ ?_
          rotate_left
          · intro w'
            go_simp
            with_reducible rfl
          rotate_left
          · simp only [Act.put, List.setIfInBounds_toArray, List.set_cons_zero, List.set_cons_succ, i64_w, i32_w]
            rfl
          refine take_ (i := 5) (N := some 60) (v := ?_) (a' := ?_) #[true, true, true, true, true, true, false, false, true, true, true, false, false, false, false, false, false, false, false] rfl rfl (by kernel_rfl) (fun _ _ _ h => h) (Or.inl ⟨by rfl, ?_⟩) hHeld ?_ ?_
          rotate_left
          · rintro w' ⟨s0, s1⟩
            go_simp
            with_reducible rfl
          rotate_left
          · simp only [Act.put, List.setIfInBounds_toArray, List.set_cons_zero, List.set_cons_succ, i64_w, i32_w]
            rfl
          refine pure_ (i := 6) (N := some 61) (v := ?_) (a' := ?_) #[true, true, true, true, true, true, true, false, true, true, true, false, false, false, false, false, false, false, false] rfl rfl (by kernel_rfl) (fun _ _ _ h => h) (Or.inl ⟨by rfl, ?_⟩) ?_ ?_
          rotate_left
          · intro w'
            go_simp
            with_reducible rfl
          rotate_left
          · simp only [Act.put, List.setIfInBounds_toArray, List.set_cons_zero, List.set_cons_succ, i64_w, i32_w]
            rfl
          refine pure_ (i := 7) (N := some 62) (v := ?_) (a' := ?_) #[true, true, true, true, true, true, true, true, true, true, true, false, false, false, false, false, false, false, false] rfl rfl (by kernel_rfl) (fun _ _ _ h => h) (Or.inl ⟨by rfl, ?_⟩) ?_ ?_
          rotate_left
          · intro w'
            go_simp
            with_reducible rfl
          rotate_left
          · simp only [Act.put, List.setIfInBounds_toArray, List.set_cons_zero, List.set_cons_succ, i64_w, i32_w]
            rfl
          refine take_ (i := 11) (N := some 66) (v := ?_) (a' := ?_) #[true, true, true, true, true, true, true, true, true, true, true, true, false, false, false, false, false, false, false] rfl rfl (by kernel_rfl) (fun _ _ _ h => h) (Or.inl ⟨by rfl, ?_⟩) hHeld ?_ ?_
          rotate_left
          · rintro w' ⟨s0, s1⟩
            go_simp
            with_reducible rfl
          rotate_left
          · simp only [Act.put, List.setIfInBounds_toArray, List.set_cons_zero, List.set_cons_succ, i64_w, i32_w]
            rfl
          refine one_ (i := 12) (N := some 67) #[true, true, true, true, true, true, true, true, true, true, true, true, true, false, false, false, false, false, false] rfl rfl (by kernel_rfl) (by decide) (fun K hK => ?_)
          refine goes_ Try.func11 (by kernel_rfl) rfl #[.agg #[.int .u8 a, .int .u64 b]] (by rfl) rfl rfl (by simp only [List.map_toArray, List.map_cons, List.map_nil]; rfl) ?_
          with_reducible refine (in_calls a b hb0 _).mono ?_
          rintro e w3 ⟨rfl, hb3⟩
          refine ⟨_, rfl, ?_⟩
          have HB3 := Aside0.mk hb3
          clear hb3
          refine hK.out _ _ ⟨(pw_cell_below HB3.out hq0), (pw_cell_below HB3.out hq1)⟩ (fun hHeld => ?_)
          clear hK K
          refine norm_ (a' := ?_) ?_ ?_
          rotate_left
          · show Act.put _ (some 67) _ = _
            simp only [Act.put, List.setIfInBounds_toArray, List.set_cons_zero, List.set_cons_succ, i64_w, i32_w]
            rfl
          refine last_ (i := 13) (N := some 68) #[true, true, true, true, true, true, true, true, true, true, true, true, true, true, false, false, false, false, false] rfl rfl (by kernel_rfl) (by decide) (fun K hK => ?_)
          refine goes_ Try.func10 (by kernel_rfl) rfl #[.pointer (some ⟨g, 0, none⟩), .int .i64 (wrap64 (a.tmod 2)), .int .u64 (asked b)] (by rfl) rfl rfl (by simp only [List.map_toArray, List.map_cons, List.map_nil]; rfl) ?_
          with_reducible refine (HASK.out w3 (IsOracle.below (IsOracle.below HOq.out (w1 := wr.drew) (by repeat (first | exact Below.refl _ _ | apply below_alloc | apply pw_below_drewN | apply below_drew1))) HB3.out)).mono ?_
          rintro e w4 ⟨rfl, hO4⟩
          refine ⟨_, rfl, ?_⟩
          have HO4 := Aside0.mk hO4
          clear hO4
          refine hK.out _ _ ?_
          clear hK K
          refine norm_ (a' := ?_) ?_ ?_
          rotate_left
          · show Act.put _ (some 68) _ = _
            simp only [Act.put, List.setIfInBounds_toArray, List.set_cons_zero, List.set_cons_succ, i64_w, i32_w]
            rfl
          refine pure_ (i := 14) (N := some 54) (v := ?_) (a' := ?_) #[true, true, true, true, true, true, true, true, true, true, true, true, true, true, true, false, false, false, false] rfl rfl (by kernel_rfl) (fun _ _ _ h => h) (Or.inl ⟨by rfl, ?_⟩) ?_ ?_
          rotate_left
          · intro w'
            go_simp
            with_reducible rfl
          rotate_left
          · simp only [Act.put, List.setIfInBounds_toArray, List.set_cons_zero, List.set_cons_succ, i64_w, i32_w]
            rfl
          refine pure_ (i := 15) (N := some 69) (v := ?_) (a' := ?_) #[true, true, true, true, true, true, true, true, true, true, true, true, true, true, true, true, false, false, false] rfl rfl (by kernel_rfl) (fun _ _ _ h => h) (Or.inl ⟨by rfl, ?_⟩) ?_ ?_
          rotate_left
          · intro w'
            go_simp
            with_reducible rfl
          rotate_left
          · simp only [Act.put, List.setIfInBounds_toArray, List.set_cons_zero, List.set_cons_succ, i64_w, i32_w]
            rfl
          refine pure_ (i := 16) (N := some 70) (v := ?_) (a' := ?_) #[true, true, true, true, true, true, true, true, true, true, true, true, true, true, true, true, true, false, false] rfl rfl (by kernel_rfl) (fun _ _ _ h => h) (Or.inl ⟨by rfl, ?_⟩) ?_ ?_
          rotate_left
          · intro w'
            go_simp
            with_reducible rfl
          rotate_left
          · simp only [Act.put, List.setIfInBounds_toArray, List.set_cons_zero, List.set_cons_succ, i64_w, i32_w]
            rfl
          refine pure_ (i := 17) (N := some 13) (v := ?_) (a' := ?_) #[true, true, true, true, true, true, true, true, true, true, true, true, true, true, true, true, true, true, false] rfl rfl (by kernel_rfl) (fun _ _ _ h => h) (Or.inl ⟨by rfl, ?_⟩) ?_ ?_
          rotate_left
          · intro w'
            go_simp
            with_reducible rfl
          rotate_left
          · simp only [Act.put, List.setIfInBounds_toArray, List.set_cons_zero, List.set_cons_succ, i64_w, i32_w]
            rfl
          refine pure_ (i := 18) (N := some 14) (v := ?_) (a' := ?_) #[true, true, true, true, true, true, true, true, true, true, true, true, true, true, true, true, true, true, true] rfl rfl (by kernel_rfl) (fun _ _ _ h => h) (Or.inl ⟨by rfl, ?_⟩) ?_ ?_
          rotate_left
          · intro w'
            go_simp
            with_reducible rfl
          rotate_left
          · simp only [Act.put, List.setIfInBounds_toArray, List.set_cons_zero, List.set_cons_succ, i64_w, i32_w]
            rfl
          refine done_ (by kernel_rfl) ?_


          obtain ⟨v1, hO4, hF4⟩ := HO4.out
          have hBd : Below wr.heap.size wr wr.drew := by repeat (first | exact Below.refl _ _ | apply below_drew1)
          have HR4 := Aside0.mk (R_ask (IsOracle.below (IsOracle.below HOq.out hBd) HB3.out) (Kd.R_below (Kd.R_below HR.out hBd) HB3.out) hF4)
          have HB4 := Aside0.mk (HB.out.trans ((hBd.mono HB.out.size).trans ((HB3.out.mono HB.out.size).trans (hF4.2.2.2.mono HMIN.out))))
          obtain ⟨e1, e2, e3⟩ := HAG.out
          rw [e1, e2] at hO4
          have HO5 := Aside0.mk (show ∃ v, IsOracle w4 g gt B v okT es ys n from ⟨_, hO4⟩)
          have HE3 := Aside0.mk e3
          obtain ⟨af, hAf, hf0, hf1⟩ := at_T40 (Kd.R_reads' HR4.out).2.2 (i : Int) (by omega) (by omega)
          cases hAf
          rw [Int.toNat_natCast, show rd_T40 ts (i : Int) = ts.getD i z40 by simp [rd_T40]] at hf0 hf1
          generalize ts.getD i z40 = F at hf0 hf1 HE3
          obtain ⟨fo, fk⟩ := F
          simp only [] at hf0 hf1 HE3
          clear hO4 hF4 HO4 hBd HASK hq0 hq1 HB3 e1 e2 e3 HAG HR HB HOq
          obtain ⟨o1, ok1, es1, n1⟩ := T
          simp only [] at HE3 ⊢
          have hit : (i : Int) < (ts.length : Int) := by omega
          cases fk
          · go_wp2_with (fail)
            go_roundw
            case rel => exact ⟨i, by omega, by simp, HO5, HR4, HB4⟩
            case measure => simp [intOf]
          · obtain ⟨rfl, rfl⟩ := HE3.out rfl
            simp only [errV, if_true]
            go_wp2_with (fail)
            go_roundw
            case rel => exact ⟨i, by omega, by simp, HO5, HR4, HB4⟩
            case measure => simp [intOf]
end Go.Proofs.Ytekcpffcgiahfaa.PA
