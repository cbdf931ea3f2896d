/- Regions whose order is drawn: any order answers alike. -/
import Derived.Test.YtnphfcaokjdigaaGreatDoorV17
set_option linter.unusedVariables false
set_option linter.unusedSimpArgs false
namespace Go.Ev
open Go

/-! ### Any order -/
theorem cnt_one : ∀ (n i : Nat) (q q' : Nat → Bool), i < n → q i = true → q' i = false → (∀ j, j ≠ i → q' j = q j) → (List.range n).countP q' + 1 = (List.range n).countP q
  | 0, i, q, q', hi, _, _, _ => by omega
  | n + 1, i, q, q', hi, h1, h2, h3 => by
    rw [List.range_succ, List.countP_append, List.countP_append]
    by_cases hn : i = n
    · subst hn
      have : (List.range i).countP q' = (List.range i).countP q := List.countP_congr fun j hj => by
        rw [h3 j (by have := List.mem_range.1 hj; omega)]
      rw [this]
      simp [List.countP_singleton, h1, h2]
    · have ih := cnt_one n i q q' (by omega) h1 h2 h3
      have : List.countP q' [n] = List.countP q [n] := by simp [List.countP_singleton, h3 n (fun e => hn e.symm)]
      omega
def unl (n : Nat) (listed : Array Bool) : Nat := (List.range n).countP fun i => !listed.getD i true
section
variable {P : Program} {ops : Array Oper}
theorem drawn_run (Inv : Array Bool → Act → World → Prop) (hsz : ∀ {listed a w}, Inv listed a w → listed.size = ops.size)
    (hstep : ∀ {listed a w i}, Inv listed a w → i ∈ Region.ready .any ops listed → ∀ (b : Frame) (rest : List Nat) (k : List Item) (cs : List Frame), ∃ a' w', Inv (listed.setIfInBounds i true) a' w' ∧
      Steps P (lone (b.at a (.inRegion ops (i :: rest) :: k)) cs w) (lone (b.at a' (.inRegion ops rest :: k)) cs w'))
    (hready : ∀ {listed a w}, Inv listed a w → Region.ready .any ops listed = [] → ∀ i, i < ops.size → listed.getD i true = true) :
    ∀ (fuel t : Nat) (listed : Array Bool) (a : Act) (w : World), Inv listed a w → unl ops.size listed ≤ fuel → ∀ (b : Frame) (k : List Item) (cs : List Frame),
      ∃ listed' a' w', Inv listed' a' w' ∧ (∀ i, i < ops.size → listed'.getD i true = true) ∧
        Steps P (lone (b.at a (.inRegion ops (Region.linearise.go .any ops fuel t listed []) :: k)) cs w) (lone (b.at a' k) cs w') := by
  intro fuel
  induction fuel with
  | zero =>
    intro t listed a w hI hu b k cs
    refine ⟨listed, a, w, hI, fun i hi => ?_, by simpa [Region.linearise.go] using Steps.one step_region_end⟩
    have : unl ops.size listed = 0 := by omega
    unfold unl at this
    rw [List.countP_eq_zero] at this
    simpa using this i (List.mem_range.2 hi)
  | succ fuel ih =>
    intro t listed a w hI hu b k cs
    simp only [Region.linearise.go]
    change ∃ listed' a' w', Inv listed' a' w' ∧ (∀ i, i < ops.size → listed'.getD i true = true) ∧
        Steps P (lone (b.at a (.inRegion ops (match (Region.ready .any ops listed)[t % (Region.ready .any ops listed).length]? with
      | some i => Region.linearise.go .any ops fuel (t / (Region.ready .any ops listed).length) (listed.setIfInBounds i true) [i]
      | none => [].reverse) :: k)) cs w) (lone (b.at a' k) cs w')
    cases hi : (Region.ready .any ops listed)[t % (Region.ready .any ops listed).length]? with
    | none =>
      have hnil : Region.ready .any ops listed = [] := by
        cases hr : Region.ready .any ops listed with
        | nil => rfl
        | cons x xs =>
          rw [hr] at hi
          have hlt : t % (x :: xs).length < (x :: xs).length := Nat.mod_lt _ (by simp)
          simp at hi
          simp at hlt
          omega
      exact ⟨listed, a, w, hI, hready hI hnil, by simpa using Steps.one step_region_end⟩
    | some i =>
      simp only []
      rw [linearise_go_acc, List.reverse_singleton, List.singleton_append]
      have him := List.mem_of_getElem? hi
      obtain ⟨hun, o, ho, _⟩ := mem_ready.1 him
      have hlt : i < ops.size := (Array.getElem?_eq_some_iff.1 ho).1
      obtain ⟨a1, w1, h1, h2⟩ := hstep hI him b (Region.linearise.go .any ops fuel (t / (Region.ready .any ops listed).length) (listed.setIfInBounds i true) []) k cs
      have hs := hsz hI
      have hcnt := cnt_one ops.size i (fun j => !listed.getD j true) (fun j => !(listed.setIfInBounds i true).getD j true) hlt (by simp [hun]) (by simp [hs, hlt]) (fun j hj => by rw [getD_set_ne true (Ne.symm hj)])
      obtain ⟨listed', a', w', h3, h4, h5⟩ := ih (t / (Region.ready .any ops listed).length) (listed.setIfInBounds i true) a1 w1 h1 (by unfold unl at hu ⊢; omega) b k cs
      exact ⟨listed', a', w', h3, h4, Steps.trans h2 h5⟩
end

/-! ### Worlds, where names are given out of their order -/
section
variable {E : Env} {B : Nat} {m : Mp} {h : Pa → Option AO} {N : Nat} {w w' : World}
theorem R.reN (hR : R E B m h N w) : R E B m h B w := ⟨hR.base, hR.own, hR.inj, fun _ _ _ => by omega⟩
theorem R.alloc0 (hR : R E B m h B w) {id : Pa} (hnone : m id = none) {o : AO} {pl : Pl} {x : Obj} (hb : pl.blk = w.heap.size) (hx : OR m o pl x) :
    R E B (m.add id pl) (upd h id (some o)) B { w with heap := w.heap.push x } := by
  have hle := Mp.le_add pl hnone
  have blt : ∀ q u, h q = some u → ∀ p, m q = some p → p.blk < w.heap.size := fun q u hq p hp => by
    obtain ⟨p', x', a1, _, a3, _⟩ := hR.own q u hq
    rw [hp] at a1; cases a1
    rcases Nat.lt_or_ge p.blk w.heap.size with c | c
    · exact c
    · rw [Array.getElem?_eq_none c] at a3; cases a3
  have old : ∀ k, k < w.heap.size → (w.heap.push x)[k]? = w.heap[k]? := fun k hk => by rw [Array.getElem?_push]; rw [if_neg (by omega)]
  refine ⟨⟨hR.base.os, hR.base.tape, hR.base.output, fun b hb' => ?_⟩, fun q u e => ?_, fun i j p p' a b hi hj hpp => ?_, fun _ _ _ => by omega⟩
  · obtain ⟨a, c⟩ := hR.base.fr b hb'
    exact ⟨by simp only [Array.size_push]; omega, (old b a).trans c⟩
  · unfold upd at e
    split at e
    · rename_i eq; subst eq; cases e
      refine ⟨pl, x, by simp [Mp.add], fun hF => ?_, by rw [hb]; simp, hx.mono hle⟩
      have := (hR.base.fr _ hF).1
      omega
    · obtain ⟨pq, xq, a1, a2, a3, a4⟩ := hR.own q u e
      exact ⟨pq, xq, hle _ _ a1, a2, (old _ (blt q u e pq a1)).trans a3, a4.mono hle⟩
  · have up : ∀ q p, upd h id (some o) q ≠ none → (m.add id pl) q = some p → (q = id ∧ p = pl) ∨ (q ≠ id ∧ m q = some p ∧ p.blk < w.heap.size ∧ h q ≠ none) := fun q p a e => by
      unfold upd at a
      unfold Mp.add at e
      split at a
      · rename_i eq; rw [if_pos eq] at e; cases e; exact .inl ⟨eq, rfl⟩
      · rename_i ne
        rw [if_neg ne] at e
        cases c : h q with
        | none => exact absurd c a
        | some u => exact .inr ⟨ne, e, blt q u c p e, by simp⟩
    rcases up i p a hi with ⟨e1, e2⟩ | ⟨e1, e2, e3, e4⟩ <;> rcases up j p' b hj with ⟨f1, f2⟩ | ⟨f1, f2, f3, f4⟩
    · rw [e1, f1]
    · subst e2; omega
    · subst f2; omega
    · exact hR.inj i j p p' e4 f4 e2 f2 hpp
/-- Some names' blocks are held fast. -/
def Env.hide (E : Env) (m : Mp) (G : Pa → Prop) (w : World) : Env := { E with F := fun b => E.F b ∨ ∃ id pl, G id ∧ m id = some pl ∧ pl.blk = b, H := fun b => w.heap[b]? }
theorem R.hide (hR : R E B m h N w) {G : Pa → Prop} (hG : ∀ id, G id → h id ≠ none) {h' : Pa → Option AO} (hh : ∀ id o, h' id = some o → h id = some o ∧ ¬ G id) {N' B' : Nat} (hf : ∀ id : Pa, N' ≤ id.toNat → id.toNat < B' → m id = none) :
    R (E.hide m G w) B' m h' N' w := by
  have ne : ∀ id, h' id ≠ none → h id ≠ none := fun id a => by
    cases c : h' id with
    | none => exact absurd c a
    | some o => rw [(hh id o c).1]; simp
  refine ⟨⟨hR.base.os, hR.base.tape, hR.base.output, fun b hb => ⟨?_, rfl⟩⟩, fun id o e => ?_, fun i j p p' a b => hR.inj i j p p' (ne i a) (ne j b), hf⟩
  · rcases hb with hb | ⟨id, pl, g, hm, rfl⟩
    · exact (hR.base.fr b hb).1
    · obtain ⟨o, ho⟩ := Option.ne_none_iff_exists'.1 (hG id g)
      obtain ⟨pl', x, a1, _, a3, _⟩ := hR.own id o ho
      rw [hm] at a1; cases a1
      rcases Nat.lt_or_ge pl.blk w.heap.size with c | c
      · exact c
      · rw [Array.getElem?_eq_none c] at a3; cases a3
  · obtain ⟨e1, e2⟩ := hh id o e
    obtain ⟨pl, x, a1, a2, a3, a4⟩ := hR.own id o e1
    refine ⟨pl, x, a1, fun hF => ?_, a3, a4⟩
    rcases hF with hF | ⟨id', pl', g, hm, hb⟩
    · exact a2 hF
    · have := hR.inj id' id pl' pl (hG id' g) (by rw [e1]; simp) hm a1 hb
      subst this
      exact e2 g
/-- They are let go again. -/
theorem R.unhide (hR : R E B m h N w) {G : Pa → Prop} (hG : ∀ id, G id → h id ≠ none) {m' : Mp} (hm : m.le m') {h1 h2 : Pa → Option AO} {N' B' : Nat} (hR' : R (E.hide m G w) B' m' h1 N' w')
    (hg : ∀ id, G id → h2 id = h id) (hn : ∀ id, ¬ G id → h2 id = h1 id) : R E B m' h2 B w' := by
  have own : ∀ id o, h2 id = some o → ∃ pl x, m' id = some pl ∧ ¬ E.F pl.blk ∧ w'.heap[pl.blk]? = some x ∧ OR m' o pl x ∧ ((G id ∧ m id = some pl ∧ h id ≠ none) ∨ (¬ G id ∧ ¬ (E.hide m G w).F pl.blk ∧ h1 id ≠ none)) := fun id o e => by
    by_cases g : G id
    · rw [hg id g] at e
      obtain ⟨pl, x, a1, a2, a3, a4⟩ := hR.own id o e
      refine ⟨pl, x, hm _ _ a1, a2, ?_, a4.mono hm, .inl ⟨g, a1, by rw [e]; simp⟩⟩
      exact ((hR'.base.fr pl.blk (.inr ⟨id, pl, g, a1, rfl⟩)).2).trans a3
    · rw [hn id g] at e
      obtain ⟨pl, x, a1, a2, a3, a4⟩ := hR'.own id o e
      exact ⟨pl, x, a1, fun hF => a2 (.inl hF), a3, a4, .inr ⟨g, a2, by rw [e]; simp⟩⟩
  refine ⟨⟨hR'.base.os, hR'.base.tape, hR'.base.output, fun b hb => ?_⟩, fun id o e => ?_, fun i j p p' a b hi hj hpp => ?_, fun _ _ _ => by omega⟩
  · obtain ⟨c1, c2⟩ := hR'.base.fr b (.inl hb)
    exact ⟨c1, c2.trans (hR.base.fr b hb).2⟩
  · obtain ⟨pl, x, a1, a2, a3, a4, _⟩ := own id o e; exact ⟨pl, x, a1, a2, a3, a4⟩
  · obtain ⟨oi, ei⟩ := Option.ne_none_iff_exists'.1 a
    obtain ⟨oj, ej⟩ := Option.ne_none_iff_exists'.1 b
    obtain ⟨pi, xi, i1, i2, i3, i4, i5⟩ := own i oi ei
    obtain ⟨pj, xj, j1, j2, j3, j4, j5⟩ := own j oj ej
    rw [hi] at i1; cases i1
    rw [hj] at j1; cases j1
    rcases i5 with ⟨g1, g2, g3⟩ | ⟨g1, g2, g3⟩ <;> rcases j5 with ⟨k1, k2, k3⟩ | ⟨k1, k2, k3⟩
    · exact hR.inj i j p p' g3 k3 g2 k2 hpp
    · exact absurd (.inr ⟨i, p, g1, g2, hpp⟩) k2
    · exact absurd (.inr ⟨j, p', k1, k2, hpp.symm⟩) g2
    · exact hR'.inj i j p p' g3 k3 hi hj hpp
end
end Go.Ev
namespace Go.Ev
open Go

/-! ### What is looked at beforehand -/
theorem ancOk_spec {anc : List Nat} : ∀ {l : List Oper} {i : Nat}, ancOk anc l i = true → ∀ j o, l[j]? = some o →
    anc.getD (i + j) 0 = o.after.toList.foldl (fun s e => bif Region.binds .any e then Nat.lor (Nat.lor s (2 ^ e.on)) (anc.getD e.on 0) else s) 0
  | [], i, h, j, o, ho => by simp at ho
  | x :: l, i, h, j, o, ho => by
    simp only [ancOk, Bool.and_eq_true] at h
    cases j with
    | zero => simp at ho; subst ho; exact Nat.eq_of_beq_eq_true h.1
    | succ j =>
      have := ancOk_spec h.2 j o (by simpa using ho)
      rw [← this]; congr 1; omega
theorem fold_bit {anc : List Nat} {j : Nat} : ∀ (l : List Edge) (s : Nat), bit (l.foldl (fun s e => bif Region.binds .any e then Nat.lor (Nat.lor s (2 ^ e.on)) (anc.getD e.on 0) else s) s) j = true ↔
    bit s j = true ∨ ∃ e ∈ l, Region.binds .any e = true ∧ (e.on = j ∨ bit (anc.getD e.on 0) j = true)
  | [], s => by simp
  | e :: l, s => by
    rw [List.foldl_cons, fold_bit l]
    cases hb : Region.binds .any e with
    | true =>
      simp only [cond_true, bit_lor, bit_pow, Bool.or_eq_true, decide_eq_true_eq, List.mem_cons, exists_eq_or_imp, hb, true_and]
      constructor
      · rintro ((( h | h) | h) | h)
        · exact .inl h
        · exact .inr (.inl (.inl h))
        · exact .inr (.inl (.inr h))
        · exact .inr (.inr h)
      · rintro (h | (h | h) | h)
        · exact .inl (.inl (.inl h))
        · exact .inl (.inl (.inr h))
        · exact .inl (.inr h)
        · exact .inr h
    | false =>
      simp only [cond_false, List.mem_cons, exists_eq_or_imp, hb, Bool.false_eq_true, false_and, false_or]
theorem zip_all {α : Type} {l : List α} {f : α × Nat → Bool} (h : l.zipIdx.all f = true) {i : Nat} {x : α} (hx : l[i]? = some x) : f (x, i) = true := by
  rw [List.all_eq_true] at h
  refine h (x, i) ?_
  rw [List.mem_zipIdx_iff_getElem?]
  exact hx
structure Apart (ops : Array Oper) (anc : List Nat) : Prop where
  two : ∀ i j o q d, ops[i]? = some o → ops[j]? = some q → i ≠ j → q.dst = some d → o.dst ≠ some d ∧ (d ∈ o.looksAt ops → bit (anc.getD i 0) j = true ∨ bit (anc.getD j 0) i = true)
  edge : ∀ i o j, ops[i]? = some o → (bit (anc.getD i 0) j = true ↔ ∃ e ∈ o.after, Region.binds .any e = true ∧ (e.on = j ∨ bit (anc.getD e.on 0) j = true))
theorem drawOk_spec {ops : Array Oper} {anc : List Nat} (h : drawOk ops anc = true) : Apart ops anc := by
  simp only [drawOk, Bool.and_eq_true] at h
  obtain ⟨h1, h2⟩ := h
  refine ⟨fun i j o q d hi hj hne hd => ?_, fun i o j hi => ?_⟩
  · have a1 := zip_all h1 (i := i) (x := o) (by simpa using hi)
    have a2 := zip_all a1 (i := j) (x := q) (by simpa using hj)
    simp only [hd, Bool.or_eq_true, Bool.and_eq_true] at a2
    rcases a2 with a2 | ⟨a2, a3⟩
    · exact absurd (Nat.eq_of_beq_eq_true a2) hne
    · refine ⟨fun e => ?_, fun hm => ?_⟩
      · rw [e] at a2; simp at a2
      · rcases a3 with (a3 | a3) | a3
        · simp [hm] at a3
        · exact .inl a3
        · exact .inr a3
  · have := ancOk_spec h2 i o (by simpa using hi)
    rw [Nat.zero_add] at this
    rw [this, fold_bit]
    simp [bit_zero]

/-! ### The invariant of a drawn region -/
section
variable {P : Program} {ops : Array Oper} {nt : Nat} {cs : List CI} {anc : List Nat} {l : List (Nat × Nat × CI)} {pts : Nat → Pt} {val : Nat → V}
structure TC (P : Program) (ops : Array Oper) (nt : Nat) (cs : List CI) (anc : List Nat) (l : List (Nat × Nat × CI)) (pts : Nat → Pt) (val : Nat → V) : Prop where
  ap : Apart ops anc
  len : cs.length = ops.size
  pl : ∀ p e, l[p]? = some e → Place cs anc 0 l p e
  onto : ∀ j, j < cs.length → ∃ (p : Nat) (e : Nat × Nat × CI), l[p]? = some e ∧ e.1 = j
  tr : ∀ p e, l[p]? = some e → ∃ o, ops[e.1]? = some o ∧ COp P nt ops o e.2.2 ∧ PutR e.2.2.dst (val p) (pts p).A (pts (p + 1)).A ∧ SF P ops o e.2.2 e.1 e.2.1 (pts p) (val p) (pts (p + 1))
  h0 : ∃ k, (pts 0).hs = [(k, (pts 0).σ)]
def nm (pts : Nat → Pt) (p : Nat) : Pa := (pts p).σ.next
def nn (pts : Nat → Pt) (p : Nat) : Nat := (pts p).σ.N
theorem nm_nn (p : Nat) : (nm pts p).toNat = nn pts p := rfl
/-- A place of the order where a block is made. -/
structure AL (l : List (Nat × Nat × CI)) (pts : Nat → Pt) (q : Nat) (ob : AO) : Prop where
  lt : ∃ e, l[q]? = some e ∧ isM e.2.2 = false
  N : nn pts (q + 1) = nn pts q + 1
  heap : (pts (q + 1)).σ.heap.get = upd (pts q).σ.heap.get (nm pts q) (some ob)
theorem AL.uniq {q : Nat} {ob ob' : AO} (h : AL l pts q ob) (h' : AL l pts q ob') : ob = ob' := by
  have := congrFun (h.heap.symm.trans h'.heap) (nm pts q)
  simpa [upd] using this
theorem lt_of {p : Nat} {e : Nat × Nat × CI} (h : l[p]? = some e) : p < l.length := by
  rcases Nat.lt_or_ge p l.length with c | c
  · exact c
  · rw [List.getElem?_eq_none c] at h; cases h
theorem at_of {p : Nat} (h : p < l.length) : ∃ e, l[p]? = some e := ⟨l[p], List.getElem?_eq_getElem h⟩
theorem TC.stepN (T : TC P ops nt cs anc l pts val) {p : Nat} (hp : p < l.length) : nn pts p ≤ nn pts (p + 1) := by
  obtain ⟨e, he⟩ := at_of hp
  obtain ⟨o, _, _, _, hs⟩ := T.tr p e he
  unfold nn
  cases hs with
  | pure _ hσ => rw [hσ]; exact Nat.le_refl _
  | read _ hσ => rw [hσ]; exact Nat.le_refl _
  | alloc _ _ hN => omega
  | turn _ hN => exact hN
theorem TC.monoN (T : TC P ops nt cs anc l pts val) {p : Nat} : ∀ {p' : Nat}, p ≤ p' → p' ≤ l.length → nn pts p ≤ nn pts p'
  | 0, h, _ => by
    obtain rfl : p = 0 := by omega
    exact Nat.le_refl _
  | p' + 1, h, hl => by
    rcases Nat.lt_or_ge p (p' + 1) with c | c
    · exact Nat.le_trans (T.monoN (by omega) (by omega)) (T.stepN (by omega))
    · obtain rfl : p = p' + 1 := by omega
      exact Nat.le_refl _
theorem AL.pos {q : Nat} {ob : AO} (h : AL l pts q ob) : q < l.length := lt_of h.lt.choose_spec.1
theorem TC.names (T : TC P ops nt cs anc l pts val) {q q' : Nat} {ob : AO} (h : AL l pts q ob) (hq : q < q') (hl : q' ≤ l.length) : nn pts q < nn pts q' := by
  have := T.monoN (p := q + 1) (p' := q') (by omega) hl
  have := h.N
  omega
theorem TC.inj (T : TC P ops nt cs anc l pts val) {q q' : Nat} {ob ob' : AO} (h : AL l pts q ob) (h' : AL l pts q' ob') (he : nm pts q = nm pts q') : q = q' := by
  have he : nn pts q = nn pts q' := by rw [← nm_nn, ← nm_nn, he]
  rcases Nat.lt_trichotomy q q' with c | c | c
  · have := T.names h c (by have := h'.pos; omega); omega
  · exact c
  · have := T.names h' c (by have := h.pos; omega); omega
/-- Between two turns of the heap, blocks are made, no more. -/
theorem TC.seg (T : TC P ops nt cs anc l pts val) {P0 : Nat} : ∀ {p : Nat}, P0 ≤ p → p ≤ l.length → (∀ q e, P0 ≤ q → q < p → l[q]? = some e → isM e.2.2 = false) →
    (∀ q ob, P0 ≤ q → q < p → AL l pts q ob → (pts p).σ.heap.get (nm pts q) = some ob) ∧ ∀ id, (∀ q ob, P0 ≤ q → q < p → AL l pts q ob → nm pts q ≠ id) → (pts p).σ.heap.get id = (pts P0).σ.heap.get id
  | 0, h, _, _ => by
    obtain rfl : P0 = 0 := by omega
    exact ⟨fun q ob _ hq => by omega, fun id _ => rfl⟩
  | p + 1, h, hl, hm => by
    rcases Nat.lt_or_ge P0 (p + 1) with c | c
    · obtain ⟨i1, i2⟩ := T.seg (P0 := P0) (p := p) (by omega) (by omega) (fun q e a b => hm q e a (by omega))
      obtain ⟨e, he⟩ := at_of (show p < l.length by omega)
      obtain ⟨o, _, _, _, hs⟩ := T.tr p e he
      have hme := hm p e (by omega) (by omega) he
      have same : ∀ (hσ : (pts (p + 1)).σ = (pts p).σ), (∀ ob, ¬ AL l pts p ob) ∧ (pts (p + 1)).σ.heap.get = (pts p).σ.heap.get := fun hσ => ⟨fun ob ha => by
        have := ha.N
        unfold nn at this
        rw [hσ] at this; omega, by rw [hσ]⟩
      have plain : ∀ (hσ : (pts (p + 1)).σ = (pts p).σ), (∀ q ob, P0 ≤ q → q < p + 1 → AL l pts q ob → (pts (p + 1)).σ.heap.get (nm pts q) = some ob) ∧
          ∀ id, (∀ q ob, P0 ≤ q → q < p + 1 → AL l pts q ob → nm pts q ≠ id) → (pts (p + 1)).σ.heap.get id = (pts P0).σ.heap.get id := fun hσ => by
        obtain ⟨n1, n2⟩ := same hσ
        rw [n2]
        refine ⟨fun q ob a b ha => ?_, fun id hid => i2 id fun q ob a b ha => hid q ob a (by omega) ha⟩
        rcases Nat.lt_or_ge q p with c | c
        · exact i1 q ob a c ha
        · obtain rfl : q = p := by omega
          exact absurd ha (n1 ob)
      cases hs with
      | pure _ hσ => exact plain hσ
      | read _ hσ => exact plain hσ
      | turn hm' => rw [hme] at hm'; cases hm'
      | alloc _ ob hN hheap _ _ =>
        have hal : AL l pts p ob := ⟨⟨e, he, hme⟩, hN, hheap⟩
        refine ⟨fun q ob' a b ha => ?_, fun id hid => ?_⟩
        · rw [hal.heap]
          unfold upd
          rcases Nat.lt_or_ge q p with c | c
          · rw [if_neg (fun e => by have := T.inj ha hal e; omega)]
            exact i1 q ob' a c ha
          · obtain rfl : q = p := by omega
            rw [if_pos rfl, ha.uniq hal]
        · rw [hal.heap]
          unfold upd
          rw [if_neg (fun e => hid p ob (by omega) (by omega) hal e.symm)]
          exact i2 id fun q ob a b ha => hid q ob a (by omega) ha
    · obtain rfl : P0 = p + 1 := by omega
      exact ⟨fun q ob a b => by omega, fun id _ => rfl⟩
/-- Which states a reader may meet, is what it was looked at in. -/
theorem TC.seen (T : TC P ops nt cs anc l pts val) {a P0 : Nat} (h0 : P0 = 0 ∨ ∃ e, l[P0 - 1]? = some e ∧ isM e.2.2 = true) : ∀ {p : Nat}, P0 ≤ p → p ≤ l.length →
    (∀ q e, P0 ≤ q → q < p → l[q]? = some e → isM e.2.2 = true → bit a e.1 = false) → Seen a (pts p).hs (pts P0).σ
  | 0, h, _, _ => by
    obtain rfl : P0 = 0 := by omega
    obtain ⟨k, hk⟩ := T.h0
    rw [hk]
    exact .inl rfl
  | p + 1, h, hl, hm => by
    obtain ⟨e, he⟩ := at_of (show p < l.length by omega)
    obtain ⟨o, _, _, _, hs⟩ := T.tr p e he
    rcases Nat.lt_or_ge P0 (p + 1) with c | c
    · have ih := T.seen h0 (p := p) (by omega) (by omega) (fun q e a b => hm q e a (by omega))
      cases hs with
      | pure _ _ hh => rw [hh]; exact ih
      | read _ _ hh => rw [hh]; exact ih
      | alloc _ _ _ _ hh => rw [hh]; exact ih
      | turn hm' _ hh => rw [hh]; exact .inr ⟨hm p e (by omega) (by omega) he hm', ih⟩
    · obtain rfl : P0 = p + 1 := by omega
      rcases h0 with h0 | ⟨e', he', hm'⟩
      · omega
      · rw [Nat.add_sub_cancel, he] at he'
        cases he'
        cases hs with
        | pure hm2 => rw [hm'] at hm2; cases hm2
        | read hm2 => rw [hm'] at hm2; cases hm2
        | alloc hm2 => rw [hm'] at hm2; cases hm2
        | turn _ _ hh => rw [hh]; exact .inl rfl
theorem pa_ne {s t : Nat} (h : s ≠ t) : pa s ≠ pa t := fun e => h (pa_inj e)
theorem cDst_some {od : Option Tmp} {d : Option Pa} (h : cDst nt od = some d) : (od = none ∧ d = none) ∨ ∃ t, od = some t ∧ d = some (pa t) ∧ t < nt := by
  cases od with
  | none => simp [cDst] at h; exact .inl ⟨rfl, h.symm⟩
  | some t =>
    simp only [cDst] at h
    cases hb : Nat.blt t nt with
    | true => rw [hb] at h; cases h; exact .inr ⟨t, rfl, rfl, by simpa using hb⟩
    | false => rw [hb] at h; cases h
/-- What stands in the frame at a place of the order. -/
theorem TC.frame (T : TC P ops nt cs anc l pts val) {t : Nat} {v : V} : ∀ {p : Nat}, p ≤ l.length → (pts p).A.get (pa t) = some v →
    (∃ q e o, q < p ∧ l[q]? = some e ∧ ops[e.1]? = some o ∧ o.dst = some t ∧ v = val q) ∨ ((∀ (q : Nat) (e : Nat × Nat × CI) (o : Oper), q < p → l[q]? = some e → ops[e.1]? = some o → o.dst ≠ some t) ∧ (pts 0).A.get (pa t) = some v)
  | 0, _, h => .inr ⟨fun q e o hq => by omega, h⟩
  | p + 1, hl, h => by
    obtain ⟨e, he⟩ := at_of (show p < l.length by omega)
    obtain ⟨o, ho, hc, hp, _⟩ := T.tr p e he
    have old : o.dst ≠ some t → (pts (p + 1)).A.get (pa t) = (pts p).A.get (pa t) →
        (∃ q e o, q < p + 1 ∧ l[q]? = some e ∧ ops[e.1]? = some o ∧ o.dst = some t ∧ v = val q) ∨ ((∀ (q : Nat) (e : Nat × Nat × CI) (o : Oper), q < p + 1 → l[q]? = some e → ops[e.1]? = some o → o.dst ≠ some t) ∧ (pts 0).A.get (pa t) = some v) := fun hne heq => by
      rw [heq] at h
      rcases T.frame (p := p) (by omega) h with ⟨q, e', o', a, b, c, d, f⟩ | ⟨a, b⟩
      · exact .inl ⟨q, e', o', by omega, b, c, d, f⟩
      · refine .inr ⟨fun q e' o' hq he' ho' => ?_, b⟩
        rcases Nat.lt_or_ge q p with c | c
        · exact a q e' o' c he' ho'
        · obtain rfl : q = p := by omega
          rw [he] at he'; cases he'
          rw [ho] at ho'; cases ho'
          exact hne
    rcases cDst_some hc.d with ⟨d1, d2⟩ | ⟨s, d1, d2, d3⟩
    · rw [d2] at hp
      have hp : (pts (p + 1)).A = (pts p).A := hp
      exact old (by rw [d1]; simp) (by rw [hp])
    · rw [d2] at hp
      have hp : ∀ q, (pts (p + 1)).A.get q = if q = pa s then some (val p) else (pts p).A.get q := hp
      by_cases hst : s = t
      · subst hst
        rw [hp, if_pos rfl] at h
        cases h
        exact .inl ⟨p, e, o, by omega, he, ho, d1, rfl⟩
      · exact old (by rw [d1]; simpa using hst) (by rw [hp, if_neg (pa_ne (fun e => hst e.symm))])

def LD (listed : Array Bool) (i : Nat) : Prop := listed.getD i false = true
structure FRL (ops : Array Oper) (nt : Nat) (l : List (Nat × Nat × CI)) (pts : Nat → Pt) (val : Nat → V) (listed : Array Bool) (m : Mp) (a : Act) : Prop where
  size : nt ≤ a.tmps.size
  defers : a.defers = []
  new : ∀ (q : Nat) (e : Nat × Nat × CI) (o : Oper) (t : Nat), l[q]? = some e → LD listed e.1 → ops[e.1]? = some o → o.dst = some t → VR m (val q) (a.tmps.getD t undef)
  old : ∀ t v, (∀ (q : Nat) (e : Nat × Nat × CI) (o : Oper), l[q]? = some e → LD listed e.1 → ops[e.1]? = some o → o.dst ≠ some t) → (pts 0).A.get (pa t) = some v → VR m v (a.tmps.getD t undef)
structure HeapR (l : List (Nat × Nat × CI)) (pts : Nat → Pt) (listed : Array Bool) (E : Env) (B P0 : Nat) (m : Mp) (h : Pa → Option AO) (w : World) : Prop where
  r : R E B m h B w
  new : ∀ (q : Nat) (e : Nat × Nat × CI) (ob : AO), P0 ≤ q → l[q]? = some e → LD listed e.1 → AL l pts q ob → h (nm pts q) = some ob
  old : ∀ id, (∀ (q : Nat) (e : Nat × Nat × CI) (ob : AO), P0 ≤ q → l[q]? = some e → LD listed e.1 → AL l pts q ob → nm pts q ≠ id) → h id = (pts P0).σ.heap.get id
  fresh : ∀ id : Pa, nn pts P0 ≤ id.toNat → id.toNat < B → m id ≠ none → ∃ q e ob, P0 ≤ q ∧ l[q]? = some e ∧ LD listed e.1 ∧ AL l pts q ob ∧ nm pts q = id
  none : ∀ id : Pa, nn pts P0 ≤ id.toNat → id.toNat < B → (pts P0).σ.heap.get id = none
structure Inv (ops : Array Oper) (nt : Nat) (l : List (Nat × Nat × CI)) (pts : Nat → Pt) (val : Nat → V) (E : Env) (B : Nat) (m0 : Mp) (listed : Array Bool) (a : Act) (w : World) : Prop where
  sz : listed.size = ops.size
  closed : ∀ (p : Nat) (e : Nat × Nat × CI), l[p]? = some e → LD listed e.1 → ∀ j, bit e.2.1 j = true → LD listed j
  ex : ∃ P0 m h, P0 ≤ l.length ∧ (P0 = 0 ∨ ∃ e, l[P0 - 1]? = some e ∧ isM e.2.2 = true) ∧ (∀ (q : Nat) (e : Nat × Nat × CI), q < P0 → l[q]? = some e → LD listed e.1) ∧ (∀ (q : Nat) (e : Nat × Nat × CI), P0 ≤ q → l[q]? = some e → isM e.2.2 = true → ¬ LD listed e.1) ∧
    Ext B m0 m ∧ FRL ops nt l pts val listed m a ∧ HeapR l pts listed E B P0 m h w
end
end Go.Ev
