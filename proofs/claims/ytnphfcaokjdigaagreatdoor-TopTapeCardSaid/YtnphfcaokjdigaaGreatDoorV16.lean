/- One operation of a region, and a region whose order is given. -/
import Derived.Test.YtnphfcaokjdigaaGreatDoorVE
set_option linter.unusedVariables false
set_option linter.unusedSimpArgs false
namespace Go.Ev
open Go
section
variable {E : Env} {B nt : Nat} {m : Mp} {P : Program} {o : Oper} {ops : Array Oper} {call : CallF} {A : Fr} {σ : St}

/-! ### One operation -/
theorem FR.ag {a : Act} (h : FR nt m A a) (S : Operand → Prop) : AG S m A a := fun t _ v hv => h.at_ t v hv
/-- What a temporary's writing makes of a frame. -/
def PutR (dst : Option Pa) (v : V) (A A' : Fr) : Prop := match dst with | none => A' = A | some d => ∀ q, A'.get q = if q = d then some v else A.get q
theorem putF_spec {dst : Option Pa} {v : V} {K : Fr → Bool} (h : putF dst v A K = true) : ∃ A', K A' = true ∧ PutR dst v A A' := by
  cases dst with
  | none => exact ⟨A, h, rfl⟩
  | some d => obtain ⟨u, h1, h2⟩ := T.setF_spec d (K := K) h; exact ⟨u, h1, h2⟩
theorem FR.putR {a : Act} {A' : Fr} (h : FR nt m A a) {od : Option Tmp} {dst : Option Pa} (hd : cDst nt od = some dst) {v : V} {v' : Value} (hp : PutR dst v A A') (hv : VR m v v') : FR nt m A' (a.put od v') := by
  cases od with
  | none => simp [cDst] at hd; subst hd; obtain rfl : A' = A := hp; exact h
  | some d =>
    simp only [cDst] at hd
    cases hb : Nat.blt d nt with
    | true => rw [hb] at hd; cases hd; exact h.put (by simpa using hb) hv hp
    | false => rw [hb] at hd; cases hd
noncomputable def CI.bare (c : CI) : Step := match c.h with
  | .q _ f => sQ f c.dst
  | .a f => sA f c.dst
  | .m f => sM f c.dst
theorem bare_sound {c : CI} (hs : HS P o c.h) (hcall : CallSpec P call) {K : Fr → St → Bool} (h : c.bare call A σ K = true) :
    ∃ v A' σ', K A' σ' = true ∧ PutR c.dst v A A' ∧ σ.N ≤ σ'.N ∧ ∀ {E B m a w}, σ'.N ≤ B → R E B m σ.heap.get σ.N w → AG (· ∈ o.op.operands) m A a → Does P o a w fun v' w' => ∃ m', Ext B m m' ∧ VR m' v v' ∧ R E B m' σ'.heap.get σ'.N w' := by
  unfold CI.bare at h
  cases hh : c.h with
  | q rd f =>
    rw [hh] at h hs
    have hs : QS P o rd f := hs
    have h : f A σ (fun v => putF c.dst v A fun A => K A σ) = true := h
    obtain ⟨v, h1, h2⟩ := hs.run h
    obtain ⟨A', h3, h4⟩ := putF_spec h1
    refine ⟨v, A', σ, h3, h4, Nat.le_refl _, fun {E B m a w} hB hR hA => ?_⟩
    obtain ⟨v', h5, h6⟩ := h2 hR (fun _ _ _ e => e) hA
    exact Does.value h6 ⟨m, Ext.refl, h5, hR⟩
  | a f =>
    rw [hh] at h hs
    have hs : AS P o f := hs
    have h : f A (fun ob mk => σ.new ob fun id σ => putF c.dst (mk.val id) A fun A => K A σ) = true := h
    obtain ⟨ob, mk, h1, h2⟩ := hs.run h
    obtain ⟨σ', h3, h4, h5⟩ := new_spec h1
    obtain ⟨A', h6, h7⟩ := putF_spec h3
    refine ⟨mk.val σ.next, A', σ', h6, h7, by omega, fun {E B m a w} hB hR hA => ?_⟩
    obtain ⟨x, pl, v', h8, h9, h10, h11⟩ := h2 (w := w) hA
    refine Does.value h8 ⟨m.add σ.next pl, Ext.add pl (upd_none hR rfl (by omega)) (by show σ.N < B; omega), h11 _ _ (by simp [Mp.add]), ?_⟩
    rw [h5, h4]
    exact hR.alloc rfl (by omega) h9 h10
  | m f =>
    rw [hh] at h hs
    have hs : MS P o f := hs
    have h : f call A σ (fun v σ => putF c.dst v A fun A => K A σ) = true := h
    obtain ⟨v, σ', h1, h2, h3⟩ := hs.run hcall h
    obtain ⟨A', h4, h5⟩ := putF_spec h1
    exact ⟨v, A', σ', h4, h5, h2, h3⟩
theorem guard_none (h : cGuard ops.toList o.guard = some none) : o.guard = none := by
  cases hg : o.guard with
  | none => rfl
  | some p =>
    obtain ⟨j, b⟩ := p
    rw [hg] at h
    simp only [cGuard] at h
    split at h
    · split at h <;> cases h
    · cases h
theorem guard_some {p : Pa} {b : Bool} (h : cGuard ops.toList o.guard = some (some (p, b))) : ∃ j q d, o.guard = some (j, b) ∧ ops[j]? = some q ∧ q.dst = some d ∧ p = pa d := by
  cases hg : o.guard with
  | none => rw [hg] at h; simp [cGuard] at h
  | some r =>
    obtain ⟨j, b'⟩ := r
    rw [hg] at h
    simp only [cGuard] at h
    split at h
    · rename_i q hq
      split at h
      · rename_i d hd; cases h; exact ⟨j, q, d, rfl, by simpa using hq, hd, rfl⟩
      · cases h
    · cases h
theorem yielded_bool {a : Act} {j d : Nat} {q : Oper} {b : Bool} (hq : ops[j]? = some q) (hd : q.dst = some d) (hv : a.tmps.getD d undef = .bool b) : yielded ops a.tmps j = some b := by
  have : a.tmps[d]? = some (.bool b) := by
    rcases Nat.lt_or_ge d a.tmps.size with c | c
    · rw [Array.getElem?_eq_getElem c]
      simp [Array.getD, c] at hv
      rw [hv]
    · simp [Array.getD, undef, Nat.not_lt.2 c] at hv
  simp [yielded, hq, hd, this]
theorem wanted_none {y : Nat → Option Bool} (h : o.guard = none) : Region.wanted o y = true := by simp [Region.wanted, h]
theorem wanted_some {y : Nat → Option Bool} {j : Nat} {b c : Bool} (h : o.guard = some (j, b)) (hy : y j = some c) : Region.wanted o y = !(xor c b) := by
  simp only [Region.wanted, h, hy]
  cases b <;> cases c <;> rfl
structure COp (P : Program) (nt : Nat) (ops : Array Oper) (o : Oper) (c : CI) : Prop where
  h : HS P o c.h
  d : cDst nt o.dst = some c.dst
  g : cGuard ops.toList o.guard = some c.guard
theorem cOp_spec (hN : NoNum P) {c : CI} (h : cOp P nt ops.toList o = some c) : COp P nt ops o c := by
  unfold cOp at h
  split at h
  · rename_i i d g hi hd hg; cases h; exact ⟨cI_sound hN hi, hd, hg⟩
  · cases h
theorem step_skip_op {b : Frame} {a : Act} {k : List Item} {cs : List Frame} {w : World} {i : Nat} {rest : List Nat} (ho : ops[i]? = some o) (hw : Region.wanted o (yielded ops a.tmps) = false) :
    step P (lone (b.at a (.inRegion ops (i :: rest) :: k)) cs w) = .next (lone (b.at (a.put o.dst undef) (.inRegion ops rest :: k)) cs w) := by
  have := step_op_skip (P := P) (b := b) (a := a) (k := k) (cs := cs) (w := w) (ops := ops) (i := i) (rest := rest) (by simp [ho, hw])
  rw [ho] at this; exact this
def Up (E : Env) (B nt : Nat) (m : Mp) (A : Fr) (σ : St) (a : Act) (w : World) : Prop := ∃ m', Ext B m m' ∧ R E B m' σ.heap.get σ.N w ∧ FR nt m' A a
theorem Up.mono {m m' : Mp} (hm : Ext B m m') {A : Fr} {σ : St} {a : Act} {w : World} (h : Up E B nt m' A σ a w) : Up E B nt m A σ a w := let ⟨m2, h1, h2, h3⟩ := h; ⟨m2, hm.trans h1, h2, h3⟩
theorem op_sound {c : CI} (hc : COp P nt ops o c) (hcall : CallSpec P call) {K : Fr → St → Bool} (h : c.step call A σ K = true) :
    ∃ A' σ', K A' σ' = true ∧ σ.N ≤ σ'.N ∧ ∀ {E B m a w}, σ'.N ≤ B → R E B m σ.heap.get σ.N w → FR nt m A a → ∀ (b : Frame) (i : Nat) (rest : List Nat) (k : List Item) (cs : List Frame), ops[i]? = some o →
      ∃ a' w', Up E B nt m A' σ' a' w' ∧ Steps P (lone (b.at a (.inRegion ops (i :: rest) :: k)) cs w) (lone (b.at a' (.inRegion ops rest :: k)) cs w') := by
  have run : ∀ {K : Fr → St → Bool}, c.bare call A σ K = true → ∃ A' σ', K A' σ' = true ∧ σ.N ≤ σ'.N ∧ ∀ {E B m a w}, σ'.N ≤ B → R E B m σ.heap.get σ.N w → FR nt m A a → Region.wanted o (yielded ops a.tmps) = true →
      ∀ (b : Frame) (i : Nat) (rest : List Nat) (k : List Item) (cs : List Frame), ops[i]? = some o →
      ∃ a' w', Up E B nt m A' σ' a' w' ∧ Steps P (lone (b.at a (.inRegion ops (i :: rest) :: k)) cs w) (lone (b.at a' (.inRegion ops rest :: k)) cs w') := fun {K} h => by
    obtain ⟨v, A', σ', h1, h2, h3, h4⟩ := bare_sound hc.h hcall h
    refine ⟨A', σ', h1, h3, fun {E B m a w} hB hR hF hw b i rest k cs ho => ?_⟩
    obtain ⟨v', w', ⟨m', h5, h6, h7⟩, h8⟩ := h4 hB hR (hF.ag _) b ops i rest k cs ho hw
    exact ⟨_, w', ⟨m', h5, h7, (hF.mono h5.1).putR hc.d h2 h6⟩, h8⟩
  cases hg : c.guard with
  | none =>
    have : c.step = c.bare := by unfold CI.step CI.bare; rw [hg]; rfl
    rw [this] at h
    obtain ⟨A', σ', h1, h2, h3⟩ := run h
    have hgo := hc.g; rw [hg] at hgo
    exact ⟨A', σ', h1, h2, fun hB hR hF => h3 hB hR hF (wanted_none (guard_none hgo))⟩
  | some gw =>
    obtain ⟨g, want⟩ := gw
    have : c.step = sG g want c.dst c.bare := by unfold CI.step CI.bare; rw [hg]; rfl
    rw [this] at h
    have hgo := hc.g; rw [hg] at hgo
    obtain ⟨j, q, d, e1, e2, e3, rfl⟩ := guard_some hgo
    obtain ⟨v, k1, k2⟩ := T.getK_spec (pa d) (t := A) (K := fun v => asB v fun b => ife (xor b want) (putF c.dst (.tu []) A fun A => K A σ) (c.bare call A σ K)) h
    obtain ⟨bb, rfl, k3⟩ := asB_spec k2
    have hy : ∀ {m a}, FR nt m A a → yielded ops a.tmps j = some bb := fun {m a} hF => by
      have hv := hF.at_ d _ k1
      refine yielded_bool e2 e3 ?_
      generalize a.tmps.getD d undef = z at hv
      cases hv; rfl
    rw [ife_iff] at k3
    rcases k3 with ⟨k4, k3⟩ | ⟨k4, k3⟩
    · obtain ⟨A', k5, k6⟩ := putF_spec k3
      refine ⟨A', σ, k5, Nat.le_refl _, fun {E B m a w} hB hR hF b i rest k cs ho => ?_⟩
      have hw : Region.wanted o (yielded ops a.tmps) = false := by rw [wanted_some e1 (hy hF), k4]; rfl
      exact ⟨_, w, ⟨m, Ext.refl, hR, hF.putR hc.d k6 (.tu [] [] rfl (by simp))⟩, .one (step_skip_op ho hw)⟩
    · obtain ⟨A', σ', h1, h2, h3⟩ := run k3
      exact ⟨A', σ', h1, h2, fun hB hR hF => h3 hB hR hF (by rw [wanted_some e1 (hy hF), k4]; rfl)⟩

/-! ### A region whose operations stand in a fixed order -/
theorem steps_sound (hN : NoNum P) (hcall : CallSpec P call) : ∀ (l : List Oper) (j : Nat) (cs : List CI), ops.toList.drop j = l → cOps P nt ops.toList l = some cs → ∀ {A : Fr} {σ : St} {K : Fr → St → Bool}, stepsOf cs call A σ K = true →
    ∃ A' σ', K A' σ' = true ∧ σ.N ≤ σ'.N ∧ ∀ {E B m a w}, σ'.N ≤ B → R E B m σ.heap.get σ.N w → FR nt m A a → ∀ (b : Frame) (k : List Item) (cs : List Frame),
      ∃ a' w', Up E B nt m A' σ' a' w' ∧ Steps P (lone (b.at a (.inRegion ops (List.range' j l.length) :: k)) cs w) (lone (b.at a' k) cs w')
  | [], j, cs, hl, hc, A, σ, K, h => by
    simp [cOps] at hc; subst hc
    exact ⟨A, σ, h, Nat.le_refl _, fun {E B m a w} hB hR hF b k cs => ⟨a, w, ⟨m, Ext.refl, hR, hF⟩, .one step_region_end⟩⟩
  | o :: l, j, cs, hl, hc, A, σ, K, h => by
    simp only [cOps] at hc
    split at hc
    · rename_i c hco
      split at hc
      · rename_i cs' hcs
        cases hc
        have ho : ops[j]? = some o := by
          have := congrArg (·[0]?) hl
          simpa [List.getElem?_drop] using this
        have hl' : ops.toList.drop (j + 1) = l := by
          have := congrArg List.tail hl
          simpa [List.tail_drop] using this
        obtain ⟨A1, σ1, h1, h2, h3⟩ := op_sound (cOp_spec hN hco) hcall (K := fun A σ => stepsOf cs' call A σ K) h
        obtain ⟨A2, σ2, h4, h5, h6⟩ := steps_sound hN hcall l (j + 1) cs' hl' hcs h1
        refine ⟨A2, σ2, h4, by omega, fun {E B m a w} hB hR hF b k cs => ?_⟩
        obtain ⟨a1, w1, ⟨m1, g1, g2, g3⟩, g4⟩ := h3 (by omega) hR hF b j (List.range' (j + 1) l.length) k cs ho
        obtain ⟨a2, w2, g5, g6⟩ := h6 hB g2 g3 b k cs
        exact ⟨a2, w2, g5.mono g1, by rw [List.length_cons, List.range'_succ]; exact Steps.trans g4 g6⟩
      · cases hc
    · cases hc

/-! ### Code -/
/-- How a piece of code ends. -/
inductive Out where
  | n (A : Fr) (σ : St)
  | x (j : Nat) (A : Fr) (σ : St)
  | r (A : Fr) (σ : St)
def Out.st : Out → St
  | .n _ σ | .x _ _ σ | .r _ σ => σ
def Out.on (kn : Fr → St → Bool) (kx : Nat → Fr → St → Bool) (kr : Fr → St → Bool) : Out → Bool
  | .n A σ => kn A σ
  | .x j A σ => kx j A σ
  | .r A σ => kr A σ
def post (E : Env) (B nt : Nat) (m : Mp) : Out → Exit → Act → World → Prop
  | .n A σ, .normal, a, w => Up E B nt m A σ a w
  | .x j A σ, .exit i, a, w => i = j ∧ Up E B nt m A σ a w
  | .r A σ, .ret, a, w => Up E B nt m A σ a w
  | _, _, _, _ => False
theorem post_mono {m m' : Mp} (hm : Ext B m m') {out : Out} {e : Exit} {a : Act} {w : World} (h : post E B nt m' out e a w) : post E B nt m out e a w := by
  cases out <;> cases e <;> first | exact Up.mono hm h | exact ⟨h.1, Up.mono hm h.2⟩ | exact h.elim
/-- A region's steps do what the machine does. -/
structure RS (P : Program) (nt : Nat) (ops : Array Oper) (draw : Bool) (s : Step) : Prop where
  run : ∀ {call : CallF}, CallSpec P call → ∀ {A σ K}, s call A σ K = true → ∃ A' σ', K A' σ' = true ∧ σ.N ≤ σ'.N ∧ ∀ {E B m a w}, σ'.N ≤ B → R E B m σ.heap.get σ.N w → FR nt m A a →
    ∀ (id : Nat) (b : Frame) (k : List Item) (cs : List Frame), ∃ a' w', Up E B nt m A' σ' a' w' ∧ Steps P (lone (b.at a (.code (.region id ops draw) :: k)) cs w) (lone (b.at a' k) cs w')
structure XS (P : Program) (nt : Nat) (c : Code) (x : Clo) : Prop where
  run : ∀ {call : CallF}, CallSpec P call → ∀ {A σ kn kx kr}, x call A σ kn kx kr = true → ∃ out : Out, out.on kn kx kr = true ∧ σ.N ≤ out.st.N ∧ ∀ {E B m a w}, out.st.N ≤ B → R E B m σ.heap.get σ.N w → FR nt m A a → c.wp P (post E B nt m out) a w
theorem rs_fixed (hN : NoNum P) {cs : List CI} (hc : cOps P nt ops.toList ops.toList = some cs) : RS P nt ops false (stepsOf cs) where
  run := fun {call} hcall {A σ K} h => by
    obtain ⟨A', σ', h1, h2, h3⟩ := steps_sound hN hcall ops.toList 0 cs rfl hc h
    refine ⟨A', σ', h1, h2, fun {E B m a w} hB hR hF id b k cs => ?_⟩
    obtain ⟨a', w', h4, h5⟩ := h3 hB hR hF b k cs
    refine ⟨a', w', h4, .head step_region ?_⟩
    rw [List.range_eq_range']
    simpa using h5
theorem xs_region {id : Nat} {draw : Bool} {s : Step} (h : RS P nt ops draw s) : XS P nt (.region id ops draw) (hReg s) where
  run := fun {call} hcall {A σ kn kx kr} h0 => by
    obtain ⟨A', σ', h1, h2, h3⟩ := h.run hcall (K := kn) h0
    refine ⟨.n A' σ', h1, h2, fun {E B m a w} hB hR hF b k cs => ?_⟩
    obtain ⟨a', w', h4, h5⟩ := h3 hB hR hF id b k cs
    exact ⟨.normal, a', w', h4, h5⟩
theorem xs_skip : XS P nt .skip hSkip where
  run := fun {call} hcall {A σ kn kx kr} h0 => ⟨.n A σ, h0, Nat.le_refl _, fun {E B m a w} hB hR hF => wp_skip ⟨m, Ext.refl, hR, hF⟩⟩
theorem xs_label (l : Nat) : XS P nt (.label l) hSkip where
  run := fun {call} hcall {A σ kn kx kr} h0 => ⟨.n A σ, h0, Nat.le_refl _, fun {E B m a w} hB hR hF => wp_label ⟨m, Ext.refl, hR, hF⟩⟩
theorem xs_ret : XS P nt .ret hRet where
  run := fun {call} hcall {A σ kn kx kr} h0 => ⟨.r A σ, h0, Nat.le_refl _, fun {E B m a w} hB hR hF => wp_ret ⟨m, Ext.refl, hR, hF⟩⟩
theorem xs_exit (id : Nat) : XS P nt (.exit id) (hExit id) where
  run := fun {call} hcall {A σ kn kx kr} h0 => ⟨.x id A σ, h0, Nat.le_refl _, fun {E B m a w} hB hR hF => wp_exit ⟨rfl, m, Ext.refl, hR, hF⟩⟩
theorem xs_seq {c d : Code} {x y : Clo} (hx : XS P nt c x) (hy : XS P nt d y) : XS P nt (.seq c d) (hSeq x y) where
  run := fun {call} hcall {A σ kn kx kr} h0 => by
    obtain ⟨out, h1, h2, h3⟩ := hx.run hcall (kn := fun A σ => y call A σ kn kx kr) (kx := kx) (kr := kr) h0
    cases out with
    | n A1 σ1 =>
      obtain ⟨out, h4, h5, h6⟩ := hy.run hcall h1
      have h2 : σ.N ≤ σ1.N := h2
      refine ⟨out, h4, by omega, fun {E B m a w} hB hR hF => wp_seq (wp_mono (h3 (show σ1.N ≤ B by omega) hR hF) fun e a' w' he => ?_)⟩
      cases e <;> first | exact he.elim | skip
      obtain ⟨m', g1, g2, g3⟩ := he
      exact wp_mono (h6 hB g2 g3) fun e a w hp => post_mono g1 hp
    | x j A1 σ1 => exact ⟨.x j A1 σ1, h1, h2, fun {E B m a w} hB hR hF => wp_seq (wp_mono (h3 hB hR hF) fun e a' w' he => by cases e <;> first | exact he.elim | exact he)⟩
    | r A1 σ1 => exact ⟨.r A1 σ1, h1, h2, fun {E B m a w} hB hR hF => wp_seq (wp_mono (h3 hB hR hF) fun e a' w' he => by cases e <;> first | exact he.elim | exact he)⟩
theorem xs_cond {z : Operand} {Z : X} {c d : Code} {x y : Clo} (hz : cX z = some Z) (hx : XS P nt c x) (hy : XS P nt d y) : XS P nt (.cond z c d) (hCond Z x y) where
  run := fun {call} hcall {A σ kn kx kr} h0 => by
    obtain ⟨v, h1, h2⟩ := xv_spec (S := fun _ => True) hz trivial (K := fun v => asB v fun b => ife b (x call A σ kn kx kr) (y call A σ kn kx kr)) h0
    obtain ⟨t, rfl, h3⟩ := asB_spec h1
    have he : ∀ {m a}, FR nt m A a → a.eval z = .bool t := fun {m a} hF => by
      have := h2 m a (hF.ag _)
      generalize a.eval z = q at this
      cases this; rfl
    rw [ife_iff] at h3
    rcases h3 with ⟨rfl, h3⟩ | ⟨rfl, h3⟩
    · obtain ⟨out, h4, h5, h6⟩ := hx.run hcall h3
      exact ⟨out, h4, h5, fun hB hR hF => wp_cond_true (he hF) (h6 hB hR hF)⟩
    · obtain ⟨out, h4, h5, h6⟩ := hy.run hcall h3
      exact ⟨out, h4, h5, fun hB hR hF => wp_cond_false (he hF) (h6 hB hR hF)⟩
theorem xs_block {id : Nat} {c : Code} {x : Clo} (hx : XS P nt c x) : XS P nt (.block id c) (hBlock id x) where
  run := fun {call} hcall {A σ kn kx kr} h0 => by
    obtain ⟨out, h1, h2, h3⟩ := hx.run hcall (kn := kn) (kx := fun j A σ => ife (Nat.beq j id) (kn A σ) (kx j A σ)) (kr := kr) h0
    cases out with
    | n A1 σ1 => exact ⟨.n A1 σ1, h1, h2, fun {E B m a w} hB hR hF => wp_block (wp_mono (h3 hB hR hF) fun e a' w' he => by cases e <;> first | exact he.elim | exact he)⟩
    | r A1 σ1 => exact ⟨.r A1 σ1, h1, h2, fun {E B m a w} hB hR hF => wp_block (wp_mono (h3 hB hR hF) fun e a' w' he => by cases e <;> first | exact he.elim | exact he)⟩
    | x j A1 σ1 =>
      have k1 : ife (Nat.beq j id) (kn A1 σ1) (kx j A1 σ1) = true := h1
      rw [ife_iff] at k1
      rcases k1 with ⟨hj, k1⟩ | ⟨hj, k1⟩
      · obtain rfl := Nat.eq_of_beq_eq_true hj
        refine ⟨.n A1 σ1, k1, h2, fun {E B m a w} hB hR hF => wp_block (wp_mono (h3 hB hR hF) fun e a' w' he => ?_)⟩
        cases e <;> first | exact he.elim | skip
        obtain ⟨rfl, he⟩ := he
        simp only [Exit.inBlock, if_true]
        exact he
      · have hne : j ≠ id := fun e => by subst e; simp at hj
        refine ⟨.x j A1 σ1, k1, h2, fun {E B m a w} hB hR hF => wp_block (wp_mono (h3 hB hR hF) fun e a' w' he => ?_)⟩
        cases e <;> first | exact he.elim | skip
        obtain ⟨rfl, he⟩ := he
        simp only [Exit.inBlock, if_neg hne]
        exact ⟨rfl, he⟩
/-- A loop's rounds. -/
def LW (P : Program) (c : Code) (Q : Exit → Act → World → Prop) (a : Act) (w : World) : Prop := ∀ (b : Frame) (k : List Item) (cs : List Frame), ∃ e a' w', Q e a' w' ∧ Arrives P (lone (b.at a (.code c :: .inLoop c :: k)) cs w) b k cs e a' w'
theorem lw_round {c : Code} {Q : Exit → Act → World → Prop} {a : Act} {w : World} (h : c.wp P (Exit.then (LW P c Q) Q) a w) : LW P c Q a w := fun b k cs => by
  obtain ⟨e, a₁, w₁, hq, harr⟩ := h b (.inLoop c :: k) cs
  cases e with
  | normal =>
    obtain ⟨e₂, a₂, w₂, hq₂, harr₂⟩ := hq b k cs
    exact ⟨e₂, a₂, w₂, hq₂, .of_steps (Steps.trans harr (.one step_inLoop)) harr₂⟩
  | exit id => exact ⟨_, a₁, w₁, hq, .pass (x := .inLoop c) rfl (fun _ _ => .inl (by simp)) harr⟩
  | goto l => exact ⟨_, a₁, w₁, hq, .pass (x := .inLoop c) rfl (fun _ _ => .inl (by simp)) harr⟩
  | ret => exact ⟨_, a₁, w₁, hq, .pass (x := .inLoop c) rfl (fun _ _ => .inl (by simp)) harr⟩
  | panic ch => exact ⟨_, a₁, w₁, hq, .pass (x := .inLoop c) rfl (fun _ _ => .inl (by simp)) harr⟩
  | outgrown => exact ⟨_, a₁, w₁, hq, .pass (x := .inLoop c) rfl (fun _ _ => .inl (by simp)) harr⟩
theorem wp_of_lw {c : Code} {Q : Exit → Act → World → Prop} {a : Act} {w : World} (h : LW P c Q a w) : (Code.loop c).wp P Q a w := fun b k cs =>
  let ⟨e, a', w', hq, harr⟩ := h b k cs
  ⟨e, a', w', hq, .of_steps (.one step_loop) harr⟩
theorem loop_sound {c : Code} {x : Clo} (hx : XS P nt c x) (hcall : CallSpec P call) {kn : Fr → St → Bool} {kx : Nat → Fr → St → Bool} {kr : Fr → St → Bool} : ∀ (n : Nat) {A : Fr} {σ : St}, loopF x n call A σ kn kx kr = true →
    ∃ out : Out, out.on kn kx kr = true ∧ σ.N ≤ out.st.N ∧ ∀ {E B m a w}, out.st.N ≤ B → R E B m σ.heap.get σ.N w → FR nt m A a → LW P c (post E B nt m out) a w
  | 0, A, σ, h => absurd (show false = true from h) (by simp)
  | n + 1, A, σ, h => by
    obtain ⟨out, h1, h2, h3⟩ := hx.run hcall (kn := fun A σ => loopF x n call A σ kn kx kr) (kx := kx) (kr := kr) h
    cases out with
    | n A1 σ1 =>
      obtain ⟨out, h4, h5, h6⟩ := loop_sound hx hcall n h1
      have h2 : σ.N ≤ σ1.N := h2
      refine ⟨out, h4, by omega, fun {E B m a w} hB hR hF => lw_round (wp_mono (h3 (show σ1.N ≤ B by omega) hR hF) fun e a' w' he => ?_)⟩
      cases e <;> first | exact he.elim | skip
      obtain ⟨m', g1, g2, g3⟩ := he
      intro b k cs
      obtain ⟨e, a2, w2, q, r⟩ := h6 hB g2 g3 b k cs
      exact ⟨e, a2, w2, post_mono g1 q, r⟩
    | x j A1 σ1 => exact ⟨.x j A1 σ1, h1, h2, fun {E B m a w} hB hR hF => lw_round (wp_mono (h3 hB hR hF) fun e a' w' he => by cases e <;> first | exact he.elim | exact he)⟩
    | r A1 σ1 => exact ⟨.r A1 σ1, h1, h2, fun {E B m a w} hB hR hF => lw_round (wp_mono (h3 hB hR hF) fun e a' w' he => by cases e <;> first | exact he.elim | exact he)⟩
theorem xs_loop {c : Code} {x : Clo} (hx : XS P nt c x) : XS P nt (.loop c) (hLoop x) where
  run := fun {call} hcall {A σ kn kx kr} h0 => by
    obtain ⟨out, h1, h2, h3⟩ := loop_sound hx hcall 3000 h0
    exact ⟨out, h1, h2, fun hB hR hF => wp_of_lw (h3 hB hR hF)⟩
theorem xs_scope {c : Code} {x : Clo} (hx : XS P nt c x) : XS P nt (.scope c) x where
  run := fun {call} hcall {A σ kn kx kr} h0 => by
    obtain ⟨out, h1, h2, h3⟩ := hx.run hcall h0
    exact ⟨out, h1, h2, fun hB hR hF => wp_scope_straight (wp_mono (h3 hB hR hF) fun e a' w' he => by cases out <;> cases e <;> first | exact he.elim | exact he)⟩
/-- All drawn regions that are made ready are sound. -/
def Drawn (P : Program) : Prop := ∀ (nt : Nat) (ops : Array Oper) (cs : List CI) (s : Step), cOps P nt ops.toList ops.toList = some cs → cDraw ops cs = some s → RS P nt ops true s
theorem code_sound (hN : NoNum P) (hD : Drawn P) : ∀ (n : Nat) (c : Code) (x : Clo), cCode P nt n c = some x → XS P nt c x
  | 0, c, x, h => by simp [cCode] at h
  | n + 1, c, x, h => by
    cases c <;> simp only [cCode, reduceCtorEq] at h
    case skip => cases h; exact xs_skip
    case label l => cases h; exact xs_label l
    case ret => cases h; exact xs_ret
    case exit id => cases h; exact xs_exit id
    case seq c d =>
      split at h
      · rename_i x y hx hy; cases h; exact xs_seq (code_sound hN hD n _ _ hx) (code_sound hN hD n _ _ hy)
      · cases h
    case cond z c d =>
      split at h
      · rename_i Z x y hz hx hy; cases h; exact xs_cond hz (code_sound hN hD n _ _ hx) (code_sound hN hD n _ _ hy)
      · cases h
    case block id c =>
      split at h
      · rename_i x hx; cases h; exact xs_block (code_sound hN hD n _ _ hx)
      · cases h
    case loop c =>
      split at h
      · rename_i x hx; cases h; exact xs_loop (code_sound hN hD n _ _ hx)
      · cases h
    case scope c => exact xs_scope (code_sound hN hD n _ _ h)
    case region id ops draw =>
      split at h
      · rename_i cs hcs
        cases draw with
        | true =>
          simp only [cond_true] at h
          split at h
          · rename_i s hs; cases h; exact xs_region (hD nt ops cs s hcs hs)
          · cases h
        | false => cases h; exact xs_region (rs_fixed hN hcs)
      · cases h

/-! ### Functions -/
def resOne (tmps : Array Value) : ResultVar → Sem Value
  | .tmp t => pure (tmps.getD t undef)
  | .cell c t => do loadVar t (← asAddr (tmps.getD c undef))
theorem res_sound : ∀ {rs : List ResultVar} {r : HR}, cRes P rs = some r → ∀ {A : Fr} {σ : St} {K : List V → Bool}, r A σ K = true → ∃ vs, K vs = true ∧ ∀ {E B m a w}, R E B m σ.heap.get σ.N w → FR nt m A a →
    ∃ vs', VRs m vs vs' ∧ (rs.mapM (resOne a.tmps)).run P w = .ok vs' w
  | [], r, h, A, σ, K, h0 => by
    simp [cRes] at h; subst h
    exact ⟨[], h0, fun {E B m a w} hR hF => ⟨[], VRs.nil, by simp⟩⟩
  | .tmp t :: rs, r, h, A, σ, K, h0 => by
    simp only [cRes] at h
    split at h
    · rename_i q hq
      cases h
      obtain ⟨v, h1, h2⟩ := T.getK_spec (pa t) (t := A) (K := fun v => q A σ fun vs => K (v :: vs)) h0
      obtain ⟨vs, h3, h4⟩ := res_sound hq h2
      refine ⟨v :: vs, h3, fun {E B m a w} hR hF => ?_⟩
      obtain ⟨vs', h5, h6⟩ := h4 hR hF
      exact ⟨_, VRs.cons (hF.at_ t v h1) h5, by simp only [List.mapM_cons, resOne, Sem.run_bind, Sem.run_pure, Result.andThen_ok, h6]⟩
    · cases h
  | .cell c ty :: rs, r, h, A, σ, K, h0 => by
    simp only [cRes] at h
    split at h
    · rename_i q hq
      cases hb : isAggB P ty with
      | true =>
        rw [hb] at h; cases h
        obtain ⟨v, h1, h2⟩ := T.getK_spec (pa c) (t := A) (K := fun v => asP v fun id o => T.getK id σ.heap fun ob => asCells ob fun _ cs => dropK o cs fun l => takeK (P.cellsOf ty) l fun l => q A σ fun vs => K (.ag l :: vs)) h0
        obtain ⟨id, off, rfl, h3⟩ := asP_spec h2
        obtain ⟨ob, h4, h5⟩ := T.getK_spec id (t := σ.heap) h3
        obtain ⟨sz, cs, rfl, h6⟩ := asCells_spec h5
        obtain ⟨h7, h8⟩ := dropK_spec off h6
        obtain ⟨h9, h10⟩ := takeK_spec _ h8
        obtain ⟨vs, h11, h12⟩ := res_sound hq h10
        refine ⟨_ :: vs, h11, fun {E B m a w} hR hF => ?_⟩
        obtain ⟨vs', h13, h14⟩ := h12 hR hF
        obtain ⟨pl, hm, hg⟩ := (hF.at_ c _ h1).p_inv
        obtain ⟨cs', hv, hl⟩ := hR.loads (P := P) h4 hm off _ h9
        obtain ⟨⟨d, hd⟩, hag⟩ := isAggB_true hb
        obtain ⟨i, hi⟩ := underlying_info hd
        obtain ⟨x, hw, hx⟩ := hR.read h4 hm
        have hlf : Leafs cs := by cases hx; assumption
        refine ⟨.agg ⟨cs'⟩ :: vs', VRs.cons (.ag _ _ hv.len hv.at_ ((hlf.drop off).take _)) h13, ?_⟩
        simp only [List.mapM_cons, resOne, hg, asAddr, loadVar, Sem.run_bind, Sem.run_pure, Result.andThen_ok, hag, if_true, run_sizeOf hi, hl, h14]
      | false => rw [hb] at h; cases h
    · cases h
theorem args_spec : ∀ (vs : List V) {p : Pa} {A : Fr} {K : Fr → Bool}, argsK vs p A K = true → ∃ A', K A' = true ∧ ∀ q : Pa, A'.get q = if p.toNat ≤ q.toNat ∧ q.toNat < p.toNat + vs.length then vs[q.toNat - p.toNat]? else A.get q
  | [], p, A, K, h => ⟨A, h, fun q => by rw [if_neg (by simp)]⟩
  | v :: vs, p, A, K, h => by
    obtain ⟨u, h1, h2⟩ := T.setF_spec p (K := fun A => p.succF fun p => argsK vs p A K) h
    obtain ⟨p', h3, h4⟩ := Pa.succF_spec p h1
    obtain ⟨A', h5, h6⟩ := args_spec vs h3
    refine ⟨A', h5, fun q => ?_⟩
    rw [h6, h2, h4]
    simp only [List.length_cons]
    by_cases hq : q = p
    · subst hq
      rw [if_neg (by omega), if_pos rfl, if_pos ⟨Nat.le_refl _, by omega⟩, Nat.sub_self]; rfl
    · have hne : q.toNat ≠ p.toNat := fun e => hq (Pa.toNat_inj e)
      by_cases hin : p.toNat + 1 ≤ q.toNat ∧ q.toNat < p.toNat + 1 + vs.length
      · rw [if_pos hin, if_pos (by omega)]
        have e : q.toNat - p.toNat = (q.toNat - (p.toNat + 1)) + 1 := by omega
        rw [e, List.getElem?_cons_succ]
      · rw [if_neg hin, if_neg hq, if_neg (by omega)]
theorem oneV_VR {vs : List V} {vs' : List Value} (h : VRs m vs vs') : VR m (oneV vs) (if h : (⟨vs'⟩ : Array Value).size = 1 then (⟨vs'⟩ : Array Value)[0] else .tuple ⟨vs'⟩) := by
  cases vs with
  | nil =>
    cases vs' with
    | nil => exact .tu [] [] rfl (by simp)
    | cons _ _ => exact absurd h.len (by simp)
  | cons v vs =>
    obtain ⟨v', t', rfl, h1, h2⟩ := h.uncons
    cases vs with
    | nil =>
      cases t' with
      | nil => exact h1
      | cons _ _ => exact absurd h2.len (by simp)
    | cons u us =>
      obtain ⟨u', t2, rfl, h3, h4⟩ := h2.uncons
      rw [dif_neg (by simp)]
      exact .tu _ _ h.len h.at_
theorem fn_sound (hN : NoNum P) (hD : Drawn P) (n : Nat) : CallSpec P (evFn (cFn P) n) := by
  induction n with
  | zero => intro f args σ K h; exact absurd (show false = true from h) (by simp)
  | succ n ih =>
    intro f args σ K h
    have h : Option.casesOn (motive := fun _ => Bool) (cFn P f) false (fun F => yes (Nat.ble (lenK args) F.nt) (argsK args .z .e fun A =>
      F.body (evFn (cFn P) n) A σ (fun A σ => F.res A σ fun vs => K (oneV vs) σ) (fun _ _ _ => false) (fun A σ => F.res A σ fun vs => K (oneV vs) σ))) = true := h
    cases hF : cFn P f with
    | none => rw [hF] at h; cases h
    | some F =>
      rw [hF] at h
      simp only [] at h
      rw [yes_iff, lenK_eq] at h
      obtain ⟨hle, h⟩ := h
      have hle : args.length ≤ F.nt := by simpa using hle
      unfold cFn at hF
      split at hF
      · rename_i fn hfn
        split at hF
        · rename_i body hbody
          split at hF
          · rename_i x r hx hr
            cases hF
            have hfn' : P.funcs[f]? = some fn := by simpa using hfn
            refine ⟨⟨fn, hfn', by rw [hbody]; rfl⟩, ?_⟩
            obtain ⟨A, h1, h2⟩ := args_spec args h
            have hX := code_sound (nt := fn.ntmps) hN hD 200 body x hx
            obtain ⟨out, h3, h4, h5⟩ := hX.run ih h1
            obtain ⟨A', σ', h6, h7, h8⟩ : ∃ A' σ', r A' σ' (fun vs => K (oneV vs) σ') = true ∧ out.st = σ' ∧ ∀ {E B m e a w}, post E B fn.ntmps m out e a w → (e = .normal ∨ e = .ret) ∧ Up E B fn.ntmps m A' σ' a w := by
              cases out with
              | n A1 σ1 => exact ⟨A1, σ1, h3, rfl, fun {E B m e a w} hp => by cases e <;> first | exact hp.elim | exact ⟨.inl rfl, hp⟩⟩
              | x j A1 σ1 => cases h3
              | r A1 σ1 => exact ⟨A1, σ1, h3, rfl, fun {E B m e a w} hp => by cases e <;> first | exact hp.elim | exact ⟨.inr rfl, hp⟩⟩
            obtain ⟨vs, h9, h10⟩ := res_sound hr h6
            rw [h7] at h4 h5
            refine ⟨oneV vs, σ', h9, h4, fun {E B m args' w} hB hR hv => ?_⟩
            have hlen := hv.len
            refine calls_of_wp hfn' hbody (wp_mono (h5 hB hR ⟨by simp; omega, fun t v ht => ?_, rfl⟩) fun e a w' hp => ?_)
            · rw [h2] at ht
              simp only [Pa.toNat, Nat.zero_le, true_and, Nat.zero_add, Nat.sub_zero, pa_toNat] at ht
              split at ht
              · rename_i hlt
                obtain ⟨v', k1, k2⟩ := hv.get ht
                have : ((⟨args'⟩ : Array Value) ++ Array.replicate (fn.ntmps - (⟨args'⟩ : Array Value).size) undef).getD t undef = v' := by
                  simp only [Array.getD_eq_getD_getElem?]
                  rw [Array.getElem?_append_left (by simp; omega)]
                  simp [k1]
                rw [this]; exact k2
              · rw [T.get_e] at ht; cases ht
            · obtain ⟨he, m', g1, g2, g3⟩ := h8 hp
              obtain ⟨vs', g4, g5⟩ := h10 g2 g3
              have hres : (results fn a.tmps).run P w' = .ok (if h : (⟨vs'⟩ : Array Value).size = 1 then (⟨vs'⟩ : Array Value)[0] else .tuple ⟨vs'⟩) w' := by
                have hfun : results fn a.tmps = (do let vs ← fn.results.mapM (resOne a.tmps); pure (if h : vs.size = 1 then vs[0] else .tuple vs)) := by
                  unfold results
                  congr 2
                rw [hfun, Array.mapM_eq_mapM_toList]
                simp only [Sem.run_bind, Sem.run_map, g5, Result.andThen_ok, Sem.run_pure]
              rcases he with rfl | rfl <;> exact ⟨g3.defers, _, hres, _, rfl, m', g1, oneV_VR g4, g2⟩
          · cases hF
        · cases hF
      · cases hF
end
end Go.Ev
