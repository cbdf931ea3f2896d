/- An oracle beside a tape and a row of answers of the law's own: what each call leaves of them. -/
import Derived.Test.YtekcpffcgiahfaaH9
namespace Go.Proofs.Ytekcpffcgiahfaa.PA
open Go.RowKit Go.Proofs.YtekcpffcgiahfaaW.PrintWords Go.Proofs.YtekcpffcgiahfaaW.PrintLast Go.Proofs.YtekcpffcgiahfaaW.PrintMore
set_option linter.unusedVariables false
set_option linter.unusedSimpArgs false
def Twin (w : World) (g gt gs B : Nat) (okT okS : Nat → Prop) (v vh : Value) (es eh : List S46) (ys : List Int) (m ms : Nat) : Prop :=
  IsOracle w g gt B v okT es ys m ∧ IsTape w gs okS ys ms ∧ Kd.R k46 46 w B (fun _ => True) vh eh ∧ (∀ b, v.ownBlock = some b → vh.ownBlock ≠ some b)
def Away (g gt gs B : Nat) (okT okS : Nat → Prop) : Prop := gs < B ∧ gs ≠ g ∧ gs ≠ gt ∧ (∀ k, okS k → k < B ∧ k ≠ g ∧ k ≠ gt) ∧ (∀ k, okT k → k ≠ gs)
section
variable {w w1 : World} {g gt gs B : Nat} {okT okS : Nat → Prop} {v v1 vh vh1 : Value} {es es1 eh eh1 : List S46} {ys : List Int} {m ms m1 : Nat}
theorem Twin.below (h : Twin w g gt gs B okT okS v vh es eh ys m ms) (hb : Below w.heap.size w w1) : Twin w1 g gt gs B okT okS v vh es eh ys m ms :=
  ⟨h.1.below hb, h.2.1.below hb, Kd.R_below h.2.2.1 hb, h.2.2.2⟩
theorem Twin.drawS (h : Twin w g gt gs B okT okS v vh es eh ys m ms) (ha : Away g gt gs B okT okS) (hk : KeepBut w w1 gs none) (hT : IsTape w1 gs okS ys m1) : Twin w1 g gt gs B okT okS v vh es eh ys m m1 := by
  obtain ⟨hO, _, hR, hd⟩ := h
  obtain ⟨a1, a2, a3, a4, a5⟩ := ha
  refine ⟨hO.step (fun k hk' hlt => hk.2 k hlt ?_ (by simp)) hk.1, hT, Kd.R_mono (Kd.R_step (Kd.R_tight rfl hR) (fun k hk' hlt => hk.2 k hlt (by have := Kd.R_base hR k hk'.symm; omega) (by simp))) (fun _ _ => trivial), hd⟩
  rcases hk' with rfl | rfl | hk' | hk'
  · exact fun e => a2 e.symm
  · exact fun e => a3 e.symm
  · exact a5 k hk'
  · have := Kd.R_base hO.own k hk'.symm
    omega
theorem Twin.drawO (h : Twin w g gt gs B okT okS v vh es eh ys m ms) (ha : Away g gt gs B okT okS) (hk : KeepBut w w1 gt none) (hO1 : IsOracle w1 g gt B v okT es ys m1) : Twin w1 g gt gs B okT okS v vh es eh ys m1 ms := by
  obtain ⟨hO, hS, hR, hd⟩ := h
  obtain ⟨a1, a2, a3, a4, a5⟩ := ha
  have h2 := hO.2.2.2.1
  exact ⟨hO1, hS.keep hk a3 (fun k hk' _ => (a4 k hk').2.2), Kd.R_mono (Kd.R_step (Kd.R_tight rfl hR) (fun k hk' hlt => hk.2 k hlt (by have := Kd.R_base hR k hk'.symm; omega) (by simp))) (fun _ _ => trivial), hd⟩
theorem Twin.asked (h : Twin w g gt gs B okT okS v vh es eh ys m ms) (ha : Away g gt gs B okT okS) (hf : ∀ k, k < w.heap.size → k ≠ g → k ≠ gt → some k ≠ v.ownBlock → w1.heap[k]? = w.heap[k]?) (hat : v1.ownBlock = v.ownBlock ∨ ∃ b, v1.ownBlock = some b ∧ w.heap.size ≤ b) (hO1 : IsOracle w1 g gt B v1 okT es1 ys m1) : Twin w1 g gt gs B okT okS v1 vh es1 eh ys m1 ms := by
  obtain ⟨hO, hS, hR, hd⟩ := h
  obtain ⟨a1, a2, a3, a4, a5⟩ := ha
  have h1 := hO.2.2.1
  have h2 := hO.2.2.2.1
  refine ⟨hO1, hS.step (fun k hk hlt => ?_), Kd.R_mono (Kd.R_step (Kd.R_tight rfl hR) (fun k hk hlt => ?_)) (fun _ _ => trivial), fun b hb => ?_⟩
  · rcases hk with rfl | hk
    · exact hf k hlt a2 a3 (fun e => by have := Kd.R_base hO.own k e.symm; omega)
    · have := a4 k hk
      exact hf k hlt this.2.1 this.2.2 (fun e => by have := Kd.R_base hO.own k e.symm; omega)
  · have := Kd.R_base hR k hk.symm
    exact hf k hlt (by omega) (by omega) (fun e => hd k e.symm hk.symm)
  · rcases hat with e | ⟨b', e, hle⟩
    · rw [e] at hb
      exact hd b hb
    · rw [e] at hb
      injection hb with hb
      subst hb
      intro e2
      have := Kd.R_lt hR _ e2
      omega
theorem Twin.append (h : Twin w g gt gs B okT okS v vh es eh ys m ms) (ha : Away g gt gs B okT okS) (hg : w.grownBy w1 vh.ownBlock) (hat : vh1.ownBlock = vh.ownBlock ∨ ∃ b, vh1.ownBlock = some b ∧ w.heap.size ≤ b) (hR1 : Kd.R k46 46 w1 B (fun _ => True) vh1 eh1) : Twin w1 g gt gs B okT okS v vh1 es eh1 ys m ms := by
  obtain ⟨hO, hS, hR, hd⟩ := h
  obtain ⟨a1, a2, a3, a4, a5⟩ := ha
  have h1 := hO.2.2.1
  have h2 := hO.2.2.2.1
  have h3 := hO.2.2.2.2.2.1
  have low : ∀ k, k < B → some k ≠ vh.ownBlock := fun k hk e => by
    have := Kd.R_base hR k e.symm
    omega
  refine ⟨hO.step (fun k hk hlt => hg.block k hlt ?_) hg.size, hS.step (fun k hk hlt => hg.block k hlt (low k ?_)), hR1, fun b hb e => ?_⟩
  · rcases hk with rfl | rfl | hk | hk
    · exact low _ h1
    · exact low _ h2
    · exact low _ (h3 k hk).1
    · exact fun e => hd k hk.symm e.symm
  · rcases hk with rfl | hk
    · exact a1
    · exact (a4 k hk).1
  · rcases hat with e2 | ⟨b', e2, hle⟩
    · rw [e2] at e
      exact hd b hb e
    · rw [e2] at e
      injection e with e
      subst e
      have := Kd.R_lt hO.own _ hb
      omega
end
theorem knownIn_at {f y : Int} : ∀ {es : List S46} {j : Nat}, (es.map (fun e => (e.f0, e.f1))).Nodup → j < es.length → (es.getD j z46).f0 = f → (es.getD j z46).f1 = y → knownIn f y es = ((es.getD j z46).f2, true)
  | [], j, _, hj, _, _ => absurd hj (Nat.not_lt_zero j)
  | a :: r, 0, hn, hj, h0, h1 => by
    simp only [List.getD_cons_zero] at h0 h1 ⊢
    rw [knownIn, if_pos ⟨h0, h1⟩]
  | a :: r, j + 1, hn, hj, h0, h1 => by
    simp only [List.getD_cons_succ] at h0 h1 ⊢
    rw [List.map_cons, List.nodup_cons] at hn
    have hj' : j < r.length := by simpa using hj
    have hm : (f, y) ∈ r.map (fun e => (e.f0, e.f1)) := by
      rw [List.mem_map]
      refine ⟨r.getD j z46, ?_, by rw [h0, h1]⟩
      simp only [List.getD_eq_getElem?_getD, List.getElem?_eq_getElem hj', Option.getD_some]
      exact List.getElem_mem hj'
    rw [knownIn, if_neg]
    · exact knownIn_at hn.2 hj' h0 h1
    · rintro ⟨e0, e1⟩
      rw [e0, e1] at hn
      exact hn.1 hm
theorem knownIn_no {f y : Int} {es : List S46} (h : ∀ j, j < es.length → ¬ ((es.getD j z46).f0 = f ∧ (es.getD j z46).f1 = y)) : knownIn f y es = (0, false) := by
  apply knownIn_none
  intro hk
  have hm := knownIn_mem.1 hk
  rw [List.mem_map] at hm
  obtain ⟨e, he, hq⟩ := hm
  obtain ⟨j, hj, rfl⟩ := List.getElem_of_mem he
  injection hq with h0 h1
  apply h j hj
  simp only [List.getD_eq_getElem?_getD, List.getElem?_eq_getElem hj, Option.getD_some]
  exact ⟨h0, h1⟩
theorem Fine.new {es : List S46} (h : Fine es) {a x : Int} (hx : 0 ≤ x) {ys : List Int} {n : Nat} (hk : knownIn (a % 2) (cutw (asked x)) es = (0, false)) (hn : n < ys.length) : Fine (es ++ [⟨a % 2, cutw (asked x), ys.getD n 0⟩]) := by
  have := h.ask a x hx ys n
  unfold askO at this
  rw [if_neg (by rw [hk]; simp), if_pos hn] at this
  exact this
theorem eqA46 (d : Nat) (w : World) (x0 y0 : Int) (x1 y1 : Int) (x2 y2 : Int) :
    (Op.equalIn (d + 2) 46 (.agg #[.int .i64 x0, .int .u64 x1, .int .u64 x2]) (.agg #[.int .i64 y0, .int .u64 y1, .int .u64 y2])).run Try.prog w = .ok (x0 == y0 && (x1 == y1 && (x2 == y2))) w := by
  refine eqA_of Try.underlying46 (by kernel_rfl) ?_
  refine eqf_cons (by rfl) (by go_simp; rfl) (by go_simp; rfl) (by go_simp) ?_
  refine eqf_cons (by rfl) (by go_simp; rfl) (by go_simp; rfl) (by go_simp) ?_
  exact eqf_last (by rfl) (by go_simp; rfl) (by go_simp; rfl) (by go_simp)
theorem neq46_same (w : World) (x0 x1 x2 : Int) : (binOp .neq 46 (.agg #[.int .i64 x0, .int .u64 x1, .int .u64 x2]) (.agg #[.int .i64 x0, .int .u64 x1, .int .u64 x2])).run Try.prog w = .ok (.bool false) w := by
  have h := eqA46 9998 w x0 x0 x1 x1 x2 x2
  simp only [binOp]
  simp [Op.equal, Op.maxDepth, h]
end Go.Proofs.Ytekcpffcgiahfaa.PA
