/- Every region and every function: what the evaluator answers, the program answers. -/
import Derived.Test.YtnphfcaokjdigaaGreatDoorVF
set_option linter.unusedVariables false
set_option linter.unusedSimpArgs false
namespace Go.Ev
open Go
section
variable {P : Program} {ops : Array Oper} {nt : Nat} {cs : List CI} {anc : List Nat} {l : List (Nat × Nat × CI)} {pts : Nat → Pt} {val : Nat → V} {E : Env} {B : Nat} {m0 : Mp} {listed : Array Bool} {a : Act} {w : World}
theorem ld_lt {i : Nat} (h : LD listed i) : i < listed.size := by
  rcases Nat.lt_or_ge i listed.size with c | c
  · exact c
  · simp [LD, Array.getElem?_eq_none c] at h
theorem ld_set {i j : Nat} (hi : i < listed.size) : LD (listed.setIfInBounds i true) j ↔ j = i ∨ LD listed j := by
  unfold LD
  by_cases hij : i = j
  · subst hij; simp [hi]
  · rw [getD_set_ne false hij]
    constructor
    · exact .inr
    · rintro (h | h)
      · exact absurd h.symm hij
      · exact h
theorem ld_not {i : Nat} (h : listed.getD i true = false) : ¬ LD listed i := fun hl => by
  have := ld_lt hl
  unfold LD at hl
  simp only [Array.getD_eq_getD_getElem?, Array.getElem?_eq_getElem this, Option.getD_some] at h hl
  rw [h] at hl; cases hl
theorem TC.pos (T : TC P ops nt cs anc l pts val) {p q : Nat} {e e' : Nat × Nat × CI} (he : l[p]? = some e) (he' : l[q]? = some e') (h : e'.1 = e.1) : q = p := by
  rcases Nat.lt_trichotomy q p with c | c | c
  · exact absurd h ((T.pl p e he).ne q e' c he')
  · exact c
  · exact absurd h.symm ((T.pl q e' he').ne p e c he)
theorem TC.ancAt (T : TC P ops nt cs anc l pts val) {p : Nat} {e : Nat × Nat × CI} (he : l[p]? = some e) : anc.getD e.1 0 = e.2.1 := by
  have := (T.pl p e he).anc
  simp [List.getD, this]
theorem TC.low (T : TC P ops nt cs anc l pts val) {p : Nat} {e : Nat × Nat × CI} (he : l[p]? = some e) {j : Nat} (hj : bit e.2.1 j = true) : ∃ (q : Nat) (e' : Nat × Nat × CI), q < p ∧ l[q]? = some e' ∧ e'.1 = j := by
  rcases (T.pl p e he).low j hj with h | h
  · rw [bit_zero] at h; cases h
  · exact h
/-- One of the operations that may be next. -/
structure Nx (ops : Array Oper) (l : List (Nat × Nat × CI)) (listed : Array Bool) (p : Nat) (e : Nat × Nat × CI) (o : Oper) : Prop where
  he : l[p]? = some e
  ho : ops[e.1]? = some o
  lt : e.1 < listed.size
  new : ¬ LD listed e.1
  anc : ∀ j, bit e.2.1 j = true → LD listed j
theorem Inv.next (T : TC P ops nt cs anc l pts val) (hI : Inv ops nt l pts val E B m0 listed a w) {i : Nat} (hi : i ∈ Region.ready .any ops listed) : ∃ p e o, e.1 = i ∧ Nx ops l listed p e o := by
  obtain ⟨hun, o, ho, hed⟩ := mem_ready.1 hi
  have hlt : i < ops.size := (Array.getElem?_eq_some_iff.1 ho).1
  obtain ⟨p, e, he, rfl⟩ := T.onto i (by rw [T.len]; exact hlt)
  refine ⟨p, e, o, rfl, he, ho, by rw [hI.sz]; exact hlt, ld_not hun, fun j hj => ?_⟩
  rw [← T.ancAt he, T.ap.edge e.1 o j ho] at hj
  obtain ⟨ed, h1, h2, h3⟩ := hj
  have hl : LD listed ed.on := hed ed h1 h2
  rcases h3 with rfl | h3
  · exact hl
  · obtain ⟨q, e', he', h4⟩ := T.onto ed.on (by rw [T.len, ← hI.sz]; exact ld_lt hl)
    rw [← h4, T.ancAt he'] at h3
    exact hI.closed q e' he' (by rw [h4]; exact hl) j h3
theorem Inv.ready (T : TC P ops nt cs anc l pts val) (hI : Inv ops nt l pts val E B m0 listed a w) (hr : Region.ready .any ops listed = []) : ∀ i, i < ops.size → listed.getD i true = true := by
  have key : ∀ (p : Nat) (e : Nat × Nat × CI), l[p]? = some e → listed.getD e.1 true = true := by
    intro p
    induction p using Nat.strongRecOn with
    | _ p ih =>
      intro e he
      cases hb : listed.getD e.1 true with
      | true => rfl
      | false =>
        obtain ⟨o, ho, _⟩ := T.tr p e he
        have : e.1 ∈ Region.ready .any ops listed := by
          refine mem_ready.2 ⟨hb, o, ho, fun ed h1 h2 => ?_⟩
          have hbit : bit e.2.1 ed.on = true := by rw [← T.ancAt he, T.ap.edge e.1 o ed.on ho]; exact ⟨ed, h1, h2, .inl rfl⟩
          obtain ⟨q, e', hq, he', h3⟩ := T.low he hbit
          have h4 := ih q hq e' he'
          obtain ⟨o', ho', _⟩ := T.tr q e' he'
          have hlt : e'.1 < listed.size := by rw [hI.sz]; exact (Array.getElem?_eq_some_iff.1 ho').1
          rw [← h3]
          simp only [Array.getD_eq_getD_getElem?, Array.getElem?_eq_getElem hlt, Option.getD_some] at h4 ⊢
          exact h4
        rw [hr] at this; cases this
  intro i hi
  obtain ⟨p, e, he, rfl⟩ := T.onto i (by rw [T.len]; exact hi)
  exact key p e he
theorem TC.look (T : TC P ops nt cs anc l pts val) (hcl : ∀ (p : Nat) (e : Nat × Nat × CI), l[p]? = some e → LD listed e.1 → ∀ j, bit e.2.1 j = true → LD listed j) {m : Mp} (hF : FRL ops nt l pts val listed m a) {p : Nat} {e : Nat × Nat × CI} {o : Oper} (hx : Nx ops l listed p e o) :
    AG (Look ops o) m (pts p).A a := by
  rintro t ⟨t', ht', ht⟩ v hv
  cases ht'
  rcases T.frame (Nat.le_of_lt (lt_of hx.he)) hv with ⟨q, e', o', hq, he', ho', hd, rfl⟩ | ⟨hno, hv0⟩
  · have hne : e'.1 ≠ e.1 := (T.pl p e hx.he).ne q e' hq he'
    rcases (T.ap.two e.1 e'.1 o o' t hx.ho ho' (Ne.symm hne) hd).2 ht with h | h
    · rw [T.ancAt hx.he] at h
      exact hF.new q e' o' t he' (hx.anc _ h) ho' hd
    · rw [T.ancAt he'] at h
      obtain ⟨q', e2, hq', he2, h2⟩ := T.low he' h
      exact absurd h2 ((T.pl p e hx.he).ne q' e2 (by omega) he2)
  · refine hF.old t v (fun q e' o' he' hl ho' hd => ?_) hv0
    have hne : e'.1 ≠ e.1 := fun h => hx.new (h ▸ hl)
    rcases (T.ap.two e.1 e'.1 o o' t hx.ho ho' (Ne.symm hne) hd).2 ht with h | h
    · rw [T.ancAt hx.he] at h
      obtain ⟨q', e2, hq', he2, h2⟩ := T.low hx.he h
      exact hno q' e2 o' hq' he2 (by rw [h2]; exact ho') hd
    · rw [T.ancAt he'] at h
      exact hx.new (hcl q e' he' hl _ h)
theorem put_same {a : Act} {t : Nat} {v : Value} (h : t < a.tmps.size) : (a.put (some t) v).tmps.getD t undef = v := by
  simp only [Act.put, Array.getD_eq_getD_getElem?, Array.getElem?_setIfInBounds, if_true, if_pos h, Option.getD_some]
theorem put_other {a : Act} {od : Option Tmp} {t : Nat} {v : Value} (h : od ≠ some t) : (a.put od v).tmps.getD t undef = a.tmps.getD t undef := by
  cases od with
  | none => rfl
  | some d =>
    simp only [Act.put, Array.getD_eq_getD_getElem?]
    rw [Array.getElem?_setIfInBounds_ne (fun e => h (by rw [e]))]
theorem FRL.step (T : TC P ops nt cs anc l pts val) {m m' : Mp} (hF : FRL ops nt l pts val listed m a) (hm : m.le m') {p : Nat} {e : Nat × Nat × CI} {o : Oper} (hx : Nx ops l listed p e o) {v' : Value} (hv : VR m' (val p) v') :
    FRL ops nt l pts val (listed.setIfInBounds e.1 true) m' (a.put o.dst v') := by
  have hc : ∃ d, cDst nt o.dst = some d := by
    obtain ⟨o', ho', hc, _⟩ := T.tr p e hx.he
    rw [hx.ho] at ho'; cases ho'
    exact ⟨_, hc.d⟩
  refine ⟨by cases o.dst <;> simpa [Act.put] using hF.size, by cases o.dst <;> exact hF.defers, fun q e' o' t he' hl ho' hd => ?_, fun t v hno hv0 => ?_⟩
  · rw [ld_set hx.lt] at hl
    by_cases he1 : e'.1 = e.1
    · obtain rfl := T.pos hx.he he' he1
      rw [he1, hx.ho] at ho'; cases ho'
      rw [hd, put_same]
      · exact hv
      · obtain ⟨d, hc⟩ := hc
        rcases cDst_some hc with ⟨d1, _⟩ | ⟨t', d1, _, d3⟩
        · rw [hd] at d1; cases d1
        · rw [hd] at d1; cases d1; exact Nat.lt_of_lt_of_le d3 hF.size
    · have hl := hl.resolve_left he1
      rw [put_other ((T.ap.two e.1 e'.1 o o' t hx.ho ho' (Ne.symm he1) hd).1)]
      exact (hF.new q e' o' t he' hl ho' hd).mono hm
  · rw [put_other (hno p e o hx.he ((ld_set hx.lt).2 (.inl rfl)) hx.ho)]
    exact (hF.old t v (fun q e' o' he' hl ho' => hno q e' o' he' ((ld_set hx.lt).2 (.inr hl)) ho') hv0).mono hm
theorem no_al {p : Nat} {ob : AO} (hσ : (pts (p + 1)).σ = (pts p).σ) (h : AL l pts p ob) : False := by
  have := h.N
  unfold nn at this
  rw [hσ] at this; omega
theorem Inv.step (T : TC P ops nt cs anc l pts val) (hB : nn pts l.length ≤ B) (hI : Inv ops nt l pts val E B m0 listed a w) {i : Nat} (hi : i ∈ Region.ready .any ops listed) (b : Frame) (rest : List Nat) (k : List Item) (css : List Frame) :
    ∃ a' w', Inv ops nt l pts val E B m0 (listed.setIfInBounds i true) a' w' ∧ Steps P (lone (b.at a (.inRegion ops (i :: rest) :: k)) css w) (lone (b.at a' (.inRegion ops rest :: k)) css w') := by
  obtain ⟨p, e, o, rfl, hx⟩ := hI.next T hi
  obtain ⟨P0, m, h, q1, q2, q3, q4, hE, hF, hH⟩ := hI.ex
  have hA := T.look hI.closed hF hx
  have hpl := lt_of hx.he
  have hP0 : P0 ≤ p := by
    rcases Nat.lt_or_ge p P0 with c | c
    · exact absurd (q3 p e c hx.he) hx.new
    · exact c
  have hsz : (listed.setIfInBounds e.1 true).size = ops.size := by simp [hI.sz]
  have hcl : ∀ (q : Nat) (e' : Nat × Nat × CI), l[q]? = some e' → LD (listed.setIfInBounds e.1 true) e'.1 → ∀ j, bit e'.2.1 j = true → LD (listed.setIfInBounds e.1 true) j := fun q e' he' hl j hj => by
    rw [ld_set hx.lt] at hl ⊢
    refine .inr ?_
    by_cases he1 : e'.1 = e.1
    · rw [← T.ancAt he', he1, T.ancAt hx.he] at hj; exact hx.anc j hj
    · exact hI.closed q e' he' (hl.resolve_left he1) j hj
  have up : ∀ {j}, LD listed j → LD (listed.setIfInBounds e.1 true) j := fun hl => (ld_set hx.lt).2 (.inr hl)
  have same : ∀ {q : Nat} {e' : Nat × Nat × CI}, l[q]? = some e' → LD (listed.setIfInBounds e.1 true) e'.1 → q = p ∨ LD listed e'.1 := fun {q e'} he' hl => by
    rw [ld_set hx.lt] at hl
    exact hl.imp (fun h => T.pos hx.he he' h) fun h => h
  obtain ⟨o', ho', hc, hp, hs⟩ := T.tr p e hx.he
  rw [hx.ho] at ho'; cases ho'
  have q4' : isM e.2.2 = false → ∀ (q : Nat) (e' : Nat × Nat × CI), P0 ≤ q → l[q]? = some e' → isM e'.2.2 = true → ¬ LD (listed.setIfInBounds e.1 true) e'.1 := fun hm q e' hq he' hm' hl => by
    rcases same he' hl with rfl | hl
    · rw [hx.he] at he'; cases he'; rw [hm] at hm'; cases hm'
    · exact q4 q e' hq he' hm' hl
  have still : (pts (p + 1)).σ = (pts p).σ → isM e.2.2 = false → ∀ v', VR m (val p) v' → Inv ops nt l pts val E B m0 (listed.setIfInBounds e.1 true) (a.put o.dst v') w := fun hσ hm v' hv =>
    ⟨hsz, hcl, P0, m, h, q1, q2, fun q e' hq he' => up (q3 q e' hq he'), q4' hm, hE, hF.step T m.le_refl hx hv, hH.r, fun q e' ob hq he' hl ha => by
      rcases same he' hl with rfl | hl
      · exact (no_al hσ ha).elim
      · exact hH.new q e' ob hq he' hl ha, fun id hno => hH.old id fun q e' ob hq he' hl ha => hno q e' ob hq he' (up hl) ha, fun id h1 h2 h3 => by
      obtain ⟨q, e', ob, hq, he', hl, ha, hn⟩ := hH.fresh id h1 h2 h3
      exact ⟨q, e', ob, hq, he', up hl, ha, hn⟩, hH.none⟩
  cases hs with
  | pure hm hσ hh hd =>
    obtain ⟨v', w', ⟨rfl, hv⟩, hst⟩ := hd hH.r hA b e.1 rest k css hx.ho
    exact ⟨_, w', still hσ hm v' hv, hst⟩
  | read hm hσ hh hd =>
    have hseen := T.seen (a := e.2.1) q2 hP0 (Nat.le_of_lt hpl) (fun q e' hq _ he' hm' => by
      cases hbb : bit e.2.1 e'.1 with
      | false => rfl
      | true => exact absurd (hx.anc _ hbb) (q4 q e' hq he' hm'))
    have hsub : ∀ id ob, (pts P0).σ.heap.get id = some ob → h id = some ob := fun id ob hob => by
      rw [hH.old id fun q e' ob' hq he' hl ha hn => ?_]
      · exact hob
      · have hle := T.monoN hq (Nat.le_of_lt ha.pos)
        have hlt := Nat.lt_of_lt_of_le (T.names ha (Nat.lt_of_lt_of_le (Nat.lt_succ_self q) (Nat.le_refl _)) ha.pos) (Nat.le_trans (T.monoN ha.pos (Nat.le_refl _)) hB)
        rw [← hn, hH.none _ (by rw [nm_nn]; exact hle) (by rw [nm_nn]; exact hlt)] at hob
        cases hob
    obtain ⟨v', w', ⟨rfl, hv⟩, hst⟩ := hd _ hseen hH.r hsub hA b e.1 rest k css hx.ho
    exact ⟨_, w', still hσ hm v' hv, hst⟩
  | alloc hm ob hN hheap hh hd =>
    have hal : AL l pts p ob := ⟨⟨e, hx.he, hm⟩, hN, hheap⟩
    obtain ⟨v', w', ⟨xo, pl, rfl, hb, hor, hv⟩, hst⟩ := hd (w := w) hA b e.1 rest k css hx.ho
    have hn1 := T.monoN hP0 (Nat.le_of_lt hpl)
    have hn2 : nn pts p < B := Nat.lt_of_lt_of_le (T.names hal (Nat.lt_succ_self p) hpl) (Nat.le_trans (T.monoN hpl (Nat.le_refl _)) hB)
    have hnone : m (nm pts p) = none := by
      cases hmn : m (nm pts p) with
      | none => rfl
      | some x =>
        obtain ⟨q, e', ob', hq, he', hl, ha, hn⟩ := hH.fresh (nm pts p) (by rw [nm_nn]; exact hn1) (by rw [nm_nn]; exact hn2) (by rw [hmn]; simp)
        obtain rfl := T.inj ha hal hn
        rw [hx.he] at he'; cases he'
        exact absurd hl hx.new
    have hext : Ext B m (m.add (nm pts p) pl) := Ext.add pl hnone (by rw [nm_nn]; exact hn2)
    refine ⟨_, _, ⟨hsz, hcl, P0, m.add (nm pts p) pl, upd h (nm pts p) (some ob), q1, q2, fun q e' hq he' => up (q3 q e' hq he'), q4' hm, hE.trans hext, hF.step T hext.1 hx (hv _ (by simp [Mp.add, nm])), hH.r.alloc0 hnone hb hor, fun q e' ob' hq he' hl ha => ?_, fun id hno => ?_, fun id h1 h2 h3 => ?_, hH.none⟩, hst⟩
    · unfold upd
      rcases same he' hl with rfl | hl
      · rw [if_pos rfl, ha.uniq hal]
      · rw [if_neg fun hn => ?_]
        · exact hH.new q e' ob' hq he' hl ha
        · obtain rfl := T.inj ha hal hn
          rw [hx.he] at he'; cases he'
          exact hx.new hl
    · unfold upd
      rw [if_neg fun hn => hno p e ob hP0 hx.he ((ld_set hx.lt).2 (.inl rfl)) hal hn.symm]
      exact hH.old id fun q e' ob' hq he' hl ha => hno q e' ob' hq he' (up hl) ha
    · unfold Mp.add at h3
      by_cases hid : id = nm pts p
      · exact ⟨p, e, ob, hP0, hx.he, (ld_set hx.lt).2 (.inl rfl), hal, hid.symm⟩
      · rw [if_neg hid] at h3
        obtain ⟨q, e', ob', hq, he', hl, ha, hn⟩ := hH.fresh id h1 h2 h3
        exact ⟨q, e', ob', hq, he', up hl, ha, hn⟩
  | turn hm hN hh hd =>
    have hbefore : ∀ (q : Nat) (e' : Nat × Nat × CI), q < p → l[q]? = some e' → LD listed e'.1 := fun q e' hq he' => hx.anc _ (((T.pl p e hx.he).turn hm).2 q e' hq he')
    have hnot : ∀ q e', P0 ≤ q → q < p → l[q]? = some e' → isM e'.2.2 = false := fun q e' hq hqp he' => by
      cases hmm : isM e'.2.2 with
      | false => rfl
      | true => exact absurd (hbefore q e' hqp he') (q4 q e' hq he' hmm)
    obtain ⟨s1, s2⟩ := T.seg hP0 (Nat.le_of_lt hpl) hnot
    have hN' : nn pts p ≤ nn pts (p + 1) := hN
    have hNB : nn pts (p + 1) ≤ B := Nat.le_trans (T.monoN hpl (Nat.le_refl _)) hB
    have hn1 := T.monoN hP0 (Nat.le_of_lt hpl)
    -- blocks that were made ahead of their time
    let Gh : Pa → Prop := fun id => ∃ q e' ob, p < q ∧ l[q]? = some e' ∧ LD listed e'.1 ∧ AL l pts q ob ∧ nm pts q = id
    have ghlow : ∀ id, Gh id → nn pts (p + 1) ≤ id.toNat ∧ id.toNat < B := fun id ⟨q, e', ob, hq, he', hl, ha, hn⟩ => by
      rw [← hn, nm_nn]
      exact ⟨T.monoN (by omega) (Nat.le_of_lt ha.pos), Nat.lt_of_lt_of_le (T.names ha (Nat.lt_succ_self q) ha.pos) (Nat.le_trans (T.monoN ha.pos (Nat.le_refl _)) hB)⟩
    have ghsome : ∀ id, Gh id → h id ≠ none := fun id ⟨q, e', ob, hq, he', hl, ha, hn⟩ => by
      rw [← hn, hH.new q e' ob (by omega) he' hl ha]; simp
    have hheap : ∀ id ob, (pts p).σ.heap.get id = some ob → h id = some ob ∧ ¬ Gh id := fun id ob hob => by
      by_cases hl : ∃ q ob', P0 ≤ q ∧ q < p ∧ AL l pts q ob' ∧ nm pts q = id
      · obtain ⟨q, ob', h1, h2, h3, rfl⟩ := hl
        rw [s1 q ob' h1 h2 h3] at hob; cases hob
        obtain ⟨e', he', _⟩ := h3.lt
        refine ⟨hH.new q e' ob h1 he' (hbefore q e' h2 he') h3, fun ⟨q', e2, ob2, g1, g2, g3, g4, g5⟩ => ?_⟩
        have := T.inj g4 h3 g5
        omega
      · rw [s2 id fun q ob' h1 h2 h3 h4 => hl ⟨q, ob', h1, h2, h3, h4⟩] at hob
        have hng : ¬ Gh id := fun hg => by
          obtain ⟨g1, g2⟩ := ghlow id hg
          rw [hH.none id (by omega) g2] at hob; cases hob
        refine ⟨?_, hng⟩
        rw [hH.old id fun q e' ob' h1 he' h2 h3 h4 => ?_]
        · exact hob
        · rcases Nat.lt_trichotomy q p with c | c | c
          · exact hl ⟨q, ob', h1, c, h3, h4⟩
          · subst c; obtain ⟨e2, he2, hm2⟩ := h3.lt
            rw [hx.he] at he2; cases he2
            rw [hm] at hm2; cases hm2
          · exact hng ⟨q, e', ob', c, he', h2, h3, h4⟩
    have hR1 : R (E.hide m Gh w) (nn pts (p + 1)) m (pts p).σ.heap.get (nn pts p) w := hH.r.hide ghsome hheap fun id h1 h2 => by
      cases hmn : m id with
      | none => rfl
      | some x =>
        obtain ⟨q, e', ob, hq, he', hl, ha, hn⟩ := hH.fresh id (by omega) (by omega) (by rw [hmn]; simp)
        rw [← hn, nm_nn] at h1 h2
        rcases Nat.lt_trichotomy q p with c | c | c
        · have := T.names ha c (Nat.le_of_lt hpl); omega
        · subst c; obtain ⟨e2, he2, hm2⟩ := ha.lt
          rw [hx.he] at he2; cases he2
          rw [hm] at hm2; cases hm2
        · have := T.monoN (p := p + 1) (p' := q) (by omega) (Nat.le_of_lt ha.pos); omega
    obtain ⟨v', w', ⟨m', hext, hv, hR2⟩, hst⟩ := hd (Nat.le_refl _) hR1 hA b e.1 rest k css hx.ho
    have q4n : ∀ (q : Nat) (e' : Nat × Nat × CI), p + 1 ≤ q → l[q]? = some e' → isM e'.2.2 = true → ¬ LD (listed.setIfInBounds e.1 true) e'.1 := fun q e' hq he' hm' hl => by
      rcases same he' hl with rfl | hl
      · omega
      · exact hx.new (hI.closed q e' he' hl _ (((T.pl q e' he').turn hm').2 p e (by omega) hx.he))
    have hdec : ∀ id, Gh id ∨ ¬ Gh id := fun id => Classical.em _
    refine ⟨_, w', ⟨hsz, hcl, p + 1, m', fun id => @ite _ (Gh id) (Classical.propDecidable _) (h id) ((pts (p + 1)).σ.heap.get id), hpl, .inr ⟨e, by rw [Nat.add_sub_cancel]; exact hx.he, hm⟩, fun q e' hq he' => ?_, q4n, hE.trans (hext.wider hNB), hF.step T hext.1 hx hv, ?_, fun q e' ob hq he' hl ha => ?_, fun id hno => ?_, fun id h1 h2 h3 => ?_, fun id h1 h2 => ?_⟩, hst⟩
    · rcases Nat.lt_or_ge q p with c | c
      · exact up (hbefore q e' c he')
      · obtain rfl : q = p := by omega
        rw [hx.he] at he'; cases he'
        exact (ld_set hx.lt).2 (.inl rfl)
    · exact hH.r.unhide ghsome hext.1 hR2 (fun id hg => if_pos hg) (fun id hg => if_neg hg)
    · have hg : Gh (nm pts q) := by
        rcases same he' hl with rfl | hl
        · omega
        · exact ⟨q, e', ob, by omega, he', hl, ha, rfl⟩
      rw [if_pos hg]
      rcases same he' hl with rfl | hl
      · omega
      · exact hH.new q e' ob (by omega) he' hl ha
    · rw [if_neg fun ⟨q, e', ob, g1, g2, g3, g4, g5⟩ => hno q e' ob (by omega) g2 (up g3) g4 g5]
    · rw [hext.2 id h1] at h3
      obtain ⟨q, e', ob, hq, he', hl, ha, hn⟩ := hH.fresh id (by omega) h2 h3
      rw [← hn, nm_nn] at h1
      refine ⟨q, e', ob, ?_, he', up hl, ha, hn⟩
      rcases Nat.lt_trichotomy q p with c | c | c
      · have := T.names ha c (Nat.le_of_lt hpl); omega
      · subst c; obtain ⟨e2, he2, hm2⟩ := ha.lt
        rw [hx.he] at he2; cases he2
        rw [hm] at hm2; cases hm2
      · exact c
    · cases hs : (pts (p + 1)).σ.heap.get id with
      | none => rfl
      | some ob =>
        obtain ⟨pl, x, a1, a2, _, _⟩ := hR2.own id ob hs
        have hm3 : m id = some pl := by rw [← hext.2 id h1]; exact a1
        obtain ⟨q, e', ob', hq, he', hl, ha, hn⟩ := hH.fresh id (by omega) h2 (by rw [hm3]; simp)
        have hqp : p < q := by
          rw [← hn, nm_nn] at h1
          rcases Nat.lt_trichotomy q p with c | c | c
          · have := T.names ha c (Nat.le_of_lt hpl); omega
          · subst c; obtain ⟨e2, he2, hm2⟩ := ha.lt
            rw [hx.he] at he2; cases he2
            rw [hm] at hm2; cases hm2
          · exact c
        exact absurd (.inr ⟨id, pl, ⟨q, e', ob', hqp, he', hl, ha, hn⟩, hm3, rfl⟩) a2
theorem inv_start (T : TC P ops nt cs anc l pts val) (hR : R E B m0 (pts 0).σ.heap.get (nn pts 0) w) (hF : FR nt m0 (pts 0).A a) : Inv ops nt l pts val E B m0 (Array.replicate ops.size false) a w := by
  have hno : ∀ i, ¬ LD (Array.replicate ops.size false) i := fun i h => by
    have := ld_lt h
    unfold LD at h
    simp [Array.getElem?_replicate] at h
    split at h <;> simp at h
  refine ⟨by simp, fun p e he h => absurd h (hno _), 0, m0, (pts 0).σ.heap.get, Nat.zero_le _, .inl rfl, fun q e hq => by omega, fun q e _ _ _ => hno _, Ext.refl, ⟨hF.size, hF.defers, fun q e o t he h => absurd h (hno _), fun t v _ hv => hF.at_ t v hv⟩, hR.reN, fun q e ob _ _ h => absurd h (hno _), fun id _ => rfl, fun id h1 h2 h3 => absurd (hR.fresh id h1 h2) h3, fun id h1 h2 => ?_⟩
  cases hs : (pts 0).σ.heap.get id with
  | none => rfl
  | some ob =>
    obtain ⟨pl, x, a1, _⟩ := hR.own id ob hs
    rw [hR.fresh id h1 h2] at a1; cases a1
theorem inv_end (T : TC P ops nt cs anc l pts val) (hI : Inv ops nt l pts val E B m0 listed a w) (hall : ∀ i, i < ops.size → listed.getD i true = true) : Up E B nt m0 (pts l.length).A (pts l.length).σ a w := by
  obtain ⟨P0, m, h, q1, q2, q3, q4, hE, hF, hH⟩ := hI.ex
  have hld : ∀ (q : Nat) (e : Nat × Nat × CI), l[q]? = some e → LD listed e.1 := fun q e he => by
    obtain ⟨o, ho, _⟩ := T.tr q e he
    have hlt : e.1 < ops.size := (Array.getElem?_eq_some_iff.1 ho).1
    have h1 := hall e.1 hlt
    have hlt : e.1 < listed.size := by rw [hI.sz]; exact hlt
    unfold LD
    simp only [Array.getD_eq_getD_getElem?, Array.getElem?_eq_getElem hlt, Option.getD_some] at h1 ⊢
    exact h1
  obtain ⟨s1, s2⟩ := T.seg q1 (Nat.le_refl _) (fun q e hq _ he => by
    cases hm : isM e.2.2 with
    | false => rfl
    | true => exact absurd (hld q e he) (q4 q e hq he hm))
  have hh : h = (pts l.length).σ.heap.get := funext fun id => by
    by_cases hl : ∃ q ob, P0 ≤ q ∧ AL l pts q ob ∧ nm pts q = id
    · obtain ⟨q, ob, h1, h2, rfl⟩ := hl
      obtain ⟨e, he, _⟩ := h2.lt
      rw [hH.new q e ob h1 he (hld q e he) h2, s1 q ob h1 h2.pos h2]
    · rw [hH.old id fun q e ob h1 he _ h2 h3 => hl ⟨q, ob, h1, h2, h3⟩, s2 id fun q ob h1 _ h2 h3 => hl ⟨q, ob, h1, h2, h3⟩]
  refine ⟨m, hE, ⟨hH.r.base, by rw [← hh]; exact hH.r.own, by rw [← hh]; exact hH.r.inj, fun id h1 h2 => ?_⟩, hF.size, fun t v hv => ?_, hF.defers⟩
  · cases hm : m id with
    | none => rfl
    | some x =>
      have h1 : nn pts l.length ≤ id.toNat := h1
      obtain ⟨q, e, ob, hq, he, hl, ha, hn⟩ := hH.fresh id (Nat.le_trans (T.monoN q1 (Nat.le_refl _)) h1) h2 (by rw [hm]; simp)
      rw [← hn, nm_nn] at h1
      have := T.names ha ha.pos (Nat.le_refl _); omega
  · rcases T.frame (Nat.le_refl _) hv with ⟨q, e, o, hq, he, ho, hd, rfl⟩ | ⟨hno, hv0⟩
    · exact hF.new q e o t he (hld q e he) ho hd
    · exact hF.old t v (fun q e o he _ ho => hno q e o (lt_of he) he ho) hv0
end

/-! ### All drawn regions -/
theorem cOps_at {P : Program} {nt : Nat} {ops : Array Oper} (hN : NoNum P) : ∀ {lo : List Oper} {cs : List CI}, cOps P nt ops.toList lo = some cs → cs.length = lo.length ∧ ∀ (j : Nat) (c : CI), cs[j]? = some c → ∃ o, lo[j]? = some o ∧ COp P nt ops o c
  | [], cs, h => by
    simp [cOps] at h; subst h
    exact ⟨rfl, fun j c hj => by simp at hj⟩
  | o :: lo, cs, h => by
    simp only [cOps] at h
    split at h
    · rename_i c hc
      split at h
      · rename_i cs' hcs
        cases h
        obtain ⟨h1, h2⟩ := cOps_at hN hcs
        refine ⟨by simp [h1], fun j c' hj => ?_⟩
        cases j with
        | zero => simp at hj; subst hj; exact ⟨o, rfl, cOp_spec hN hc⟩
        | succ j => exact h2 j c' (by simpa using hj)
      · cases h
    · cases h
theorem drawn_sound {P : Program} (hN : NoNum P) (hmix : P.follows .mixedOrders = true) : Drawn P := fun nt ops cs s hcs hs => by
  unfold cDraw at hs
  simp only [] at hs
  cases hok : drawOk ops (Region.before ops).toList with
  | false => rw [hok] at hs; cases hs
  | true =>
    rw [hok] at hs
    simp only [cond_true] at hs
    split at hs
    · rename_i l hl
      cases hs
      obtain ⟨hlen, hcop⟩ := cOps_at hN hcs
      obtain ⟨hpl, honto⟩ := dSeq_spec _ _ _ hl
      have hce : ∀ e ∈ l, ∃ o, ops[e.1]? = some o ∧ COp P nt ops o e.2.2 := fun e he => by
        obtain ⟨p, hp, rfl⟩ := List.mem_iff_getElem.1 he
        obtain ⟨o, ho, hc⟩ := hcop _ _ (hpl p _ (List.getElem?_eq_getElem hp)).cs
        exact ⟨o, by simpa using ho, hc⟩
      constructor
      intro call hcall A σ K h
      have h : dstepsOf l call A σ [(cs.length, σ)] (fun A σ _ => K A σ) = true := h
      obtain ⟨pts, val, h1, h2, h3⟩ := dtrace (ops := ops) (nt := nt) hcall l hce (x := ⟨A, σ, [(cs.length, σ)]⟩) h
      have T : TC P ops nt cs (Region.before ops).toList l pts val := ⟨drawOk_spec hok, by simpa using hlen, hpl, fun j hj => (honto j hj).resolve_left (by rw [bit_zero]; simp), h3, ⟨cs.length, by rw [h1]⟩⟩
      have hmono := T.monoN (Nat.zero_le l.length) (Nat.le_refl _)
      refine ⟨(pts l.length).A, (pts l.length).σ, h2, by unfold nn at hmono; rw [h1] at hmono; exact hmono, fun {E B m a w} hB hR hF id b k css => ?_⟩
      have hI := inv_start (E := E) (B := B) (m0 := m) (a := a) (w := { w with drawn := w.drawn + 1 }) T (by unfold nn; rw [h1]; exact hR.drawn _) (by rw [h1]; exact hF)
      obtain ⟨listed, a', w', g1, g2, g3⟩ := drawn_run (P := P) (ops := ops) (Inv ops nt l pts val E B m) (fun hI => hI.sz) (fun hI hi b rest k cs => hI.step T hB hi b rest k cs) (fun hI hr => hI.ready T hr)
        ops.size (w.tape w.drawn (.order b.fn id)) _ a _ hI (by unfold unl; exact Nat.le_trans List.countP_le_length (by simp)) b k css
      refine ⟨a', w', inv_end T g1 g2, .head step_region_draw ?_⟩
      simp only [Region.schedule, hmix, Bool.true_or, if_true]
      exact g3
    · cases hs
end Go.Ev
