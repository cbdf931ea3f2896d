/- Values that are alike are the same; states that are alike. -/
import Derived.Test.YtnphfcaokjdigaaGreatDoorV16
set_option linter.unusedVariables false
set_option linter.unusedSimpArgs false
namespace Go.Ev
open Go

/-! ### Values that are alike are the same -/
theorem V.beq_eq : ∀ (n : Nat) (v u : V), V.beq n v u = true → v = u := by
  intro n
  induction n with
  | zero =>
    intro v u h
    cases v <;> cases u <;> first
      | rfl
      | (simp [V.beq] at h; done)
      | (simp only [V.beq, Bool.and_eq_true, beq_iff_eq] at h; subst h; rfl)
      | (simp only [V.beq, Bool.and_eq_true] at h; obtain ⟨h1, h2⟩ := h; rw [kBeq_eq h1, iBeq_iff.1 h2])
      | (simp only [V.beq, Bool.and_eq_true] at h; obtain ⟨h1, h2⟩ := h; rw [Pa.beq_eq h1, Nat.eq_of_beq_eq_true h2])
      | (simp only [V.beq, Bool.and_eq_true] at h; obtain ⟨⟨⟨h1, h2⟩, h3⟩, h4⟩ := h; rw [Pa.beq_eq h1, Nat.eq_of_beq_eq_true h2, Nat.eq_of_beq_eq_true h3, Nat.eq_of_beq_eq_true h4])
      | (simp only [V.beq] at h; rw [Pa.beq_eq h])
      | skip
    all_goals
      rename_i x y
      cases x <;> cases y <;> first | rfl | (simp [V.beq] at h; done)
  | succ n ih =>
    intro v u h
    cases v <;> cases u <;> first
      | rfl
      | (simp [V.beq] at h; done)
      | (simp only [V.beq, Bool.and_eq_true, beq_iff_eq] at h; subst h; rfl)
      | (simp only [V.beq, Bool.and_eq_true] at h; obtain ⟨h1, h2⟩ := h; rw [kBeq_eq h1, iBeq_iff.1 h2])
      | (simp only [V.beq, Bool.and_eq_true] at h; obtain ⟨h1, h2⟩ := h; rw [Pa.beq_eq h1, Nat.eq_of_beq_eq_true h2])
      | (simp only [V.beq, Bool.and_eq_true] at h; obtain ⟨⟨⟨h1, h2⟩, h3⟩, h4⟩ := h; rw [Pa.beq_eq h1, Nat.eq_of_beq_eq_true h2, Nat.eq_of_beq_eq_true h3, Nat.eq_of_beq_eq_true h4])
      | (simp only [V.beq] at h; rw [Pa.beq_eq h])
      | (simp only [V.beq, Bool.and_eq_true] at h; obtain ⟨h1, h2⟩ := h; rw [Nat.eq_of_beq_eq_true h1, ih _ _ h2])
      | skip
    all_goals
      rename_i x y
      cases x with
      | nil => cases y with
        | nil => rfl
        | cons _ _ => simp [V.beq] at h
      | cons a x => cases y with
        | nil => simp [V.beq] at h
        | cons b y =>
          simp only [V.beq, Bool.and_eq_true] at h
          have h1 := ih _ _ h.1
          have h2 := ih _ _ h.2
          cases h2
          rw [h1]

/-! ### Bits -/
theorem bit_or (a b j : Nat) : bit (a ||| b) j = (bit a j || bit b j) := Nat.testBit_or ..
theorem bit_lor (a b j : Nat) : bit (Nat.lor a b) j = (bit a j || bit b j) := Nat.testBit_or ..
theorem bit_pow (i j : Nat) : bit (2 ^ i) j = decide (i = j) := Nat.testBit_two_pow
theorem bit_land {a d : Nat} (h : Nat.land a d = a) {j : Nat} (hj : bit a j = true) : bit d j = true := by
  rw [← h] at hj
  have : bit (a &&& d) j = (bit a j && bit d j) := Nat.testBit_and ..
  have hj : bit (a &&& d) j = true := hj
  rw [this] at hj
  simp at hj
  exact hj.2
theorem bit_all (n j : Nat) : bit (2 ^ n - 1) j = decide (j < n) := Nat.testBit_two_pow_sub_one ..
theorem bit_zero (j : Nat) : bit 0 j = false := Nat.zero_testBit j

/-! ### The order that is run -/
structure Place (cs : List CI) (anc : List Nat) (d : Nat) (l : List (Nat × Nat × CI)) (p : Nat) (e : Nat × Nat × CI) : Prop where
  cs : cs[e.1]? = some e.2.2
  anc : anc[e.1]? = some e.2.1
  new : bit d e.1 = false
  low : ∀ j, bit e.2.1 j = true → bit d j = true ∨ ∃ (q : Nat) (e' : Nat × Nat × CI), q < p ∧ l[q]? = some e' ∧ e'.1 = j
  turn : isM e.2.2 = true → (∀ j, bit d j = true → bit e.2.1 j = true) ∧ ∀ (q : Nat) (e' : Nat × Nat × CI), q < p → l[q]? = some e' → bit e.2.1 e'.1 = true
  ne : ∀ (q : Nat) (e' : Nat × Nat × CI), q < p → l[q]? = some e' → e'.1 ≠ e.1
theorem dSeq_spec {cs : List CI} {anc : List Nat} : ∀ (order : List Nat) (d : Nat) (l : List (Nat × Nat × CI)), dSeq cs anc order d = some l →
    (∀ p e, l[p]? = some e → Place cs anc d l p e) ∧ ∀ j, j < cs.length → bit d j = true ∨ ∃ (p : Nat) (e : Nat × Nat × CI), l[p]? = some e ∧ e.1 = j
  | [], d, l, h => by
    simp only [dSeq] at h
    cases hb : Nat.beq d (2 ^ cs.length - 1) with
    | true =>
      rw [hb] at h; cases h
      obtain rfl := Nat.eq_of_beq_eq_true hb
      exact ⟨fun p e h => by simp at h, fun j hj => .inl (by rw [bit_all]; simpa using hj)⟩
    | false => rw [hb] at h; cases h
  | i :: r, d, l, h => by
    simp only [dSeq] at h
    split at h
    · rename_i c a hc ha
      cases hb : (!(bit d i) && Nat.beq (Nat.land a d) a && (!(isM c) || Nat.beq a d)) with
      | true =>
        rw [hb] at h
        simp only [cond_true] at h
        split at h
        · rename_i l' hl'
          cases h
          simp only [Bool.and_eq_true, Bool.not_eq_true', Bool.or_eq_true] at hb
          obtain ⟨⟨hn, hland⟩, hmu⟩ := hb
          have hland := Nat.eq_of_beq_eq_true hland
          obtain ⟨h1, h2⟩ := dSeq_spec r _ l' hl'
          refine ⟨fun p e he => ?_, fun j hj => ?_⟩
          · cases p with
            | zero =>
              simp at he; subst he
              exact ⟨hc, ha, hn, fun j hj => .inl (bit_land hland hj), fun hm => ⟨fun j hj => by
                rcases hmu with e | e
                · rw [hm] at e; cases e
                · rw [Nat.eq_of_beq_eq_true e]; exact hj, fun q e' hq => by omega⟩, fun q e' hq => by omega⟩
            | succ p =>
              have he : l'[p]? = some e := by simpa using he
              have hP := h1 p e he
              have hnew := hP.new
              rw [bit_or, bit_pow] at hnew
              simp only [Bool.or_eq_false_iff, decide_eq_false_iff_not] at hnew
              refine ⟨hP.cs, hP.anc, hnew.1, fun j hj => ?_, fun hm => ⟨fun j hj => (hP.turn hm).1 j (by rw [bit_or, hj]; rfl), fun q e' hq he' => ?_⟩, fun q e' hq he' => ?_⟩
              · rcases hP.low j hj with h | ⟨q, e', hq, he', hj⟩
                · rw [bit_or, bit_pow] at h
                  simp only [Bool.or_eq_true, decide_eq_true_eq] at h
                  rcases h with h | h
                  · exact .inl h
                  · exact .inr ⟨0, _, by omega, rfl, h⟩
                · exact .inr ⟨q + 1, e', by omega, by simpa using he', hj⟩
              · cases q with
                | zero => simp at he'; subst he'; exact (hP.turn hm).1 i (by rw [bit_or, bit_pow]; simp)
                | succ q => exact (hP.turn hm).2 q e' (by omega) (by simpa using he')
              · cases q with
                | zero => simp at he'; subst he'; exact hnew.2
                | succ q => exact hP.ne q e' (by omega) (by simpa using he')
          · rcases h2 j hj with h | ⟨p, e, he, hj⟩
            · rw [bit_or, bit_pow] at h
              simp only [Bool.or_eq_true, decide_eq_true_eq] at h
              rcases h with h | h
              · exact .inl h
              · exact .inr ⟨0, _, rfl, h⟩
            · exact .inr ⟨p + 1, e, (List.getElem?_cons_succ).trans he, hj⟩
        · cases h
      | false => rw [hb] at h; cases h
    · cases h

/-! ### What one step of the order says of the machine -/
structure Pt where
  A : Fr
  σ : St
  hs : List (Nat × St)
/-- Which states a reader was looked at in. -/
def Seen (a : Nat) : List (Nat × St) → St → Prop
  | [], _ => False
  | (k, σ) :: r, τ => τ = σ ∨ (bit a k = false ∧ Seen a r τ)
def Look (ops : Array Oper) (o : Oper) : Operand → Prop := fun x => ∃ t, x = .tmp t ∧ t ∈ o.looksAt ops
section
variable {P : Program} {ops : Array Oper} {o : Oper} {nt : Nat} {call : CallF}
theorem look_ops {m : Mp} {A : Fr} {a : Act} (h : AG (Look ops o) m A a) : AG (· ∈ o.op.operands) m A a := fun t ht v hv =>
  h t ⟨t, rfl, List.mem_append_left _ (List.mem_filterMap.2 ⟨.tmp t, by simpa using ht, rfl⟩)⟩ v hv
theorem look_guard {m : Mp} {A : Fr} {a : Act} (h : AG (Look ops o) m A a) {j d : Nat} {b : Bool} {q : Oper} (hg : o.guard = some (j, b)) (hq : ops[j]? = some q) (hd : q.dst = some d) {v : V} (hv : A.get (pa d) = some v) : VR m v (a.tmps.getD d undef) :=
  h d ⟨d, rfl, List.mem_append_right _ (by simp [hg, hq, hd])⟩ v hv
def DoesG (P : Program) (ops : Array Oper) (o : Oper) (a : Act) (w : World) (Φ : Value → World → Prop) : Prop :=
  ∀ (b : Frame) (i : Nat) (rest : List Nat) (k : List Item) (cs : List Frame), ops[i]? = some o →
    ∃ v w', Φ v w' ∧ Steps P (lone (b.at a (.inRegion ops (i :: rest) :: k)) cs w) (lone (b.at (a.put o.dst v) (.inRegion ops rest :: k)) cs w')
theorem Does.toG {a : Act} {w : World} {Φ : Value → World → Prop} (h : Does P o a w Φ) (hw : Region.wanted o (yielded ops a.tmps) = true) : DoesG P ops o a w Φ := fun b i rest k cs ho => h b ops i rest k cs ho hw
theorem DoesG.skip {a : Act} {w : World} {Φ : Value → World → Prop} (hw : Region.wanted o (yielded ops a.tmps) = false) (h : Φ undef w) : DoesG P ops o a w Φ := fun b i rest k cs ho => ⟨undef, w, h, .one (step_skip_op ho hw)⟩
inductive SF (P : Program) (ops : Array Oper) (o : Oper) (c : CI) (i a : Nat) (x : Pt) (v : V) (y : Pt) : Prop
  | pure (hm : isM c = false) (hσ : y.σ = x.σ) (hh : y.hs = x.hs) (h : ∀ {E B m h N act w}, R E B m h N w → AG (Look ops o) m x.A act → DoesG P ops o act w fun v' w' => w' = w ∧ VR m v v')
  | read (hm : isM c = false) (hσ : y.σ = x.σ) (hh : y.hs = x.hs) (h : ∀ τ, Seen a x.hs τ → ∀ {E B m h N act w}, R E B m h N w → (∀ id ob, τ.heap.get id = some ob → h id = some ob) → AG (Look ops o) m x.A act → DoesG P ops o act w fun v' w' => w' = w ∧ VR m v v')
  | alloc (hm : isM c = false) (ob : AO) (hN : y.σ.N = x.σ.N + 1) (hheap : y.σ.heap.get = upd x.σ.heap.get x.σ.next (some ob)) (hh : y.hs = x.hs)
      (h : ∀ {m act w}, AG (Look ops o) m x.A act → DoesG P ops o act w fun v' w' => ∃ xo pl, w' = { w with heap := w.heap.push xo } ∧ pl.blk = w.heap.size ∧ OR m ob pl xo ∧ ∀ m' : Mp, m' x.σ.next = some pl → VR m' v v')
  | turn (hm : isM c = true) (hN : x.σ.N ≤ y.σ.N) (hh : y.hs = (i, y.σ) :: x.hs)
      (h : ∀ {E B m act w}, y.σ.N ≤ B → R E B m x.σ.heap.get x.σ.N w → AG (Look ops o) m x.A act → DoesG P ops o act w fun v' w' => ∃ m', Ext B m m' ∧ VR m' v v' ∧ R E B m' y.σ.heap.get y.σ.N w')
theorem backK_spec {a : Nat} {f : St → Bool} : ∀ {l : List (Nat × St)} {k : Nat}, backK a f l k = true → bit a k = false → ∀ τ, Seen a l τ → f τ = true
  | [], k, h, hk, τ, hs => hs.elim
  | (k', σ) :: r, k, h, hk, τ, hs => by
    have h : ife (bit a k) true (yes (f σ) (backK a f r k')) = true := h
    rw [hk, ife_iff] at h
    rcases h with ⟨h, _⟩ | ⟨_, h⟩
    · cases h
    · rw [yes_iff] at h
      rcases hs with rfl | ⟨hk', hs⟩
      · exact h.1
      · exact backK_spec h.2 hk' τ hs
noncomputable def CI.dbare (c : CI) (i a : Nat) : DStep := match c.h with
  | .q rd f => bif rd then dR f c.dst a else dQ f c.dst
  | .a f => dA f c.dst
  | .m f => dM f c.dst i
/-- A step that is made. 'ok': where it is made. -/
theorem dbare_sound {c : CI} {i a : Nat} (hs : HS P o c.h) (hcall : CallSpec P call) {x : Pt} {K : Fr → St → List (Nat × St) → Bool} (h : c.dbare i a call x.A x.σ x.hs K = true)
    (hok : ∀ {m : Mp} {act : Act}, AG (Look ops o) m x.A act → Region.wanted o (yielded ops act.tmps) = true) :
    ∃ v y, K y.A y.σ y.hs = true ∧ PutR c.dst v x.A y.A ∧ SF P ops o c i a x v y := by
  unfold CI.dbare at h
  cases hh : c.h with
  | q rd f =>
    rw [hh] at h hs
    have hs : QS P o rd f := hs
    have hm : isM c = false := by simp [isM, hh]
    cases rd with
    | false =>
      have h : f x.A x.σ (fun v => putF c.dst v x.A fun A => K A x.σ x.hs) = true := h
      obtain ⟨v, h1, h2⟩ := hs.run h
      obtain ⟨A', h3, h4⟩ := putF_spec h1
      refine ⟨v, ⟨A', x.σ, x.hs⟩, h3, h4, .pure hm rfl rfl fun hR hA => ?_⟩
      obtain ⟨v', h5, h6⟩ := h2 hR (fun e => by cases e) (look_ops hA)
      exact (Does.value h6 (Φ := fun v' w' => w' = _ ∧ VR _ v v') ⟨rfl, h5⟩).toG (hok hA)
    | true =>
      have h : List.casesOn (motive := fun _ => Bool) x.hs false (fun e r => f x.A e.2 fun v => yes (backK a (fun τ => f x.A τ fun u => V.beq 300 v u) r e.1) (putF c.dst v x.A fun A => K A x.σ x.hs)) = true := h
      cases hhs : x.hs with
      | nil => rw [hhs] at h; cases h
      | cons e r =>
        rw [hhs] at h
        have h : f x.A e.2 (fun v => yes (backK a (fun τ => f x.A τ fun u => V.beq 300 v u) r e.1) (putF c.dst v x.A fun A => K A x.σ (e :: r))) = true := h
        obtain ⟨v, h1, h2⟩ := hs.run h
        rw [yes_iff] at h1
        obtain ⟨hback, h1⟩ := h1
        obtain ⟨A', h3, h4⟩ := putF_spec h1
        refine ⟨v, ⟨A', x.σ, x.hs⟩, by rw [hhs]; exact h3, h4, .read hm rfl rfl fun τ hτ => ?_⟩
        rw [hhs] at hτ
        have key : ∃ u, v = u ∧ ∀ {E B m h N a w}, R E B m h N w → (true = true → ∀ id ob, τ.heap.get id = some ob → h id = some ob) → AG (· ∈ o.op.operands) m x.A a → ∃ v', VR m u v' ∧ (execOp a.eval o).run P w = .ok (.value v') w := by
          rcases hτ with rfl | ⟨hk, hτ⟩
          · exact ⟨v, rfl, h2⟩
          · obtain ⟨u, g1, g2⟩ := hs.run (backK_spec hback hk τ hτ)
            exact ⟨u, V.beq_eq _ _ _ g1, g2⟩
        obtain ⟨u, rfl, h2⟩ := key
        intro E B m h N act w hR hsub hA
        obtain ⟨v', h5, h6⟩ := h2 hR (fun _ => hsub) (look_ops hA)
        exact (Does.value h6 (Φ := fun v' w' => w' = w ∧ VR m v v') ⟨rfl, h5⟩).toG (hok hA)
  | a f =>
    rw [hh] at h hs
    have hs : AS P o f := hs
    have hm : isM c = false := by simp [isM, hh]
    have h : f x.A (fun ob mk => x.σ.new ob fun id σ => putF c.dst (mk.val id) x.A fun A => K A σ x.hs) = true := h
    obtain ⟨ob, mk, h1, h2⟩ := hs.run h
    obtain ⟨σ', h3, h4, h5⟩ := new_spec h1
    obtain ⟨A', h6, h7⟩ := putF_spec h3
    refine ⟨mk.val x.σ.next, ⟨A', σ', x.hs⟩, h6, h7, .alloc hm ob h4 h5 rfl fun {m act w} hA => ?_⟩
    obtain ⟨xo, pl, v', h8, h9, h10, h11⟩ := h2 (w := w) (look_ops hA)
    exact (Does.value h8 ⟨xo, pl, rfl, h9, h10, fun m' hm' => h11 m' _ hm'⟩).toG (hok hA)
  | m f =>
    rw [hh] at h hs
    have hs : MS P o f := hs
    have hm : isM c = true := by simp [isM, hh]
    have h : f call x.A x.σ (fun v σ => putF c.dst v x.A fun A => K A σ ((i, σ) :: x.hs)) = true := h
    obtain ⟨v, σ', h1, h2, h3⟩ := hs.run hcall h
    obtain ⟨A', h4, h5⟩ := putF_spec h1
    exact ⟨v, ⟨A', σ', (i, σ') :: x.hs⟩, h4, h5, .turn hm h2 rfl fun hB hR hA => (h3 hB hR (look_ops hA)).toG (hok hA)⟩
theorem dstep_sound {c : CI} {i a : Nat} (hc : COp P nt ops o c) (hcall : CallSpec P call) {x : Pt} {K : Fr → St → List (Nat × St) → Bool} (h : c.dstep i a call x.A x.σ x.hs K = true) :
    ∃ v y, K y.A y.σ y.hs = true ∧ PutR c.dst v x.A y.A ∧ SF P ops o c i a x v y := by
  have hgo := hc.g
  cases hg : c.guard with
  | none =>
    have : c.dstep i a = c.dbare i a := by unfold CI.dstep CI.dbare; rw [hg]; rfl
    rw [this] at h
    rw [hg] at hgo
    exact dbare_sound hc.h hcall h fun _ => wanted_none (guard_none hgo)
  | some gw =>
    obtain ⟨g, want⟩ := gw
    rw [hg] at hgo
    obtain ⟨j, q, d, e1, e2, e3, rfl⟩ := guard_some hgo
    have hyb : ∀ {bb : Bool}, x.A.get (pa d) = some (.b bb) → ∀ {m : Mp} {act : Act}, AG (Look ops o) m x.A act → yielded ops act.tmps j = some bb := fun {bb} k1 {m act} hA => by
      have hv := look_guard hA e1 e2 e3 k1
      refine yielded_bool e2 e3 ?_
      generalize act.tmps.getD d undef = z at hv
      cases hv; rfl
    cases hm : isM c with
    | false =>
      have : c.dstep i a = dG (pa d) want c.dst (c.dbare i a) := by
        unfold CI.dstep CI.dbare; rw [hg]
        unfold isM at hm
        cases hh : c.h <;> rw [hh] at hm <;> first | rfl | (simp at hm; done)
      rw [this] at h
      obtain ⟨v, k1, k2⟩ := T.getK_spec (pa d) (t := x.A) (K := fun v => asB v fun b => ife (xor b want) (putF c.dst (.tu []) x.A fun A => K A x.σ x.hs) (c.dbare i a call x.A x.σ x.hs K)) h
      obtain ⟨bb, rfl, k3⟩ := asB_spec k2
      rw [ife_iff] at k3
      rcases k3 with ⟨k4, k3⟩ | ⟨k4, k3⟩
      · obtain ⟨A', k5, k6⟩ := putF_spec k3
        refine ⟨.tu [], ⟨A', x.σ, x.hs⟩, k5, k6, .pure hm rfl rfl fun hR hA => DoesG.skip (by rw [wanted_some e1 (hyb k1 hA), k4]; rfl) ⟨rfl, .tu [] [] rfl (by simp)⟩⟩
      · exact dbare_sound hc.h hcall k3 fun hA => by rw [wanted_some e1 (hyb k1 hA), k4]; rfl
    | true =>
      have : c.dstep i a = dGm (pa d) want c.dst i (c.dbare i a) := by
        unfold CI.dstep CI.dbare; rw [hg]
        unfold isM at hm
        cases hh : c.h <;> rw [hh] at hm <;> first | rfl | (simp at hm; done)
      rw [this] at h
      obtain ⟨v, k1, k2⟩ := T.getK_spec (pa d) (t := x.A) (K := fun v => asB v fun b => ife (xor b want) (putF c.dst (.tu []) x.A fun A => K A x.σ ((i, x.σ) :: x.hs)) (c.dbare i a call x.A x.σ x.hs K)) h
      obtain ⟨bb, rfl, k3⟩ := asB_spec k2
      rw [ife_iff] at k3
      rcases k3 with ⟨k4, k3⟩ | ⟨k4, k3⟩
      · obtain ⟨A', k5, k6⟩ := putF_spec k3
        refine ⟨.tu [], ⟨A', x.σ, (i, x.σ) :: x.hs⟩, k5, k6, .turn hm (Nat.le_refl _) rfl fun {E B m act w} hB hR hA => DoesG.skip (by rw [wanted_some e1 (hyb k1 hA), k4]; rfl) ⟨m, Ext.refl, .tu [] [] rfl (by simp), hR⟩⟩
      · exact dbare_sound hc.h hcall k3 fun hA => by rw [wanted_some e1 (hyb k1 hA), k4]; rfl
/-- The whole order. -/
theorem dtrace (hcall : CallSpec P call) : ∀ (l : List (Nat × Nat × CI)), (∀ e ∈ l, ∃ o, ops[e.1]? = some o ∧ COp P nt ops o e.2.2) → ∀ {x : Pt} {K : Fr → St → List (Nat × St) → Bool}, dstepsOf l call x.A x.σ x.hs K = true →
    ∃ (pts : Nat → Pt) (val : Nat → V), pts 0 = x ∧ K (pts l.length).A (pts l.length).σ (pts l.length).hs = true ∧ ∀ p e, l[p]? = some e → ∃ o, ops[e.1]? = some o ∧ COp P nt ops o e.2.2 ∧
      PutR e.2.2.dst (val p) (pts p).A (pts (p + 1)).A ∧ SF P ops o e.2.2 e.1 e.2.1 (pts p) (val p) (pts (p + 1))
  | [], _, x, K, h => ⟨fun _ => x, fun _ => .tu [], rfl, h, fun p e he => by simp at he⟩
  | (i, a, c) :: l, hc, x, K, h => by
    obtain ⟨o, ho, hco⟩ := hc (i, a, c) (by simp)
    have h : c.dstep i a call x.A x.σ x.hs (fun A σ hs => dstepsOf l call A σ hs K) = true := h
    obtain ⟨v, y, h1, h2, h3⟩ := dstep_sound hco hcall h
    obtain ⟨pts, val, h4, h5, h6⟩ := dtrace hcall l (fun e he => hc e (by simp [he])) h1
    refine ⟨fun p => Nat.casesOn p x pts, fun p => Nat.casesOn p v val, rfl, h5, fun p e he => ?_⟩
    cases p with
    | zero =>
      simp at he; subst he
      refine ⟨o, ho, hco, ?_, ?_⟩
      · show PutR c.dst v x.A (pts 0).A
        rw [h4]; exact h2
      · show SF P ops o c i a x v (pts 0)
        rw [h4]; exact h3
    | succ p => exact h6 p e (by simpa using he)
end
end Go.Ev
