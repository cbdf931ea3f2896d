/- Loads, stores and comparisons of the evaluator: each says what the real one does. -/
import Derived.Test.YtnphfcaokjdigaaGreatDoorVA
set_option linter.unusedVariables false
set_option linter.unusedSimpArgs false
namespace Go.Ev
open Go
section
variable {E : Env} {B : Nat} {m : Mp} {h : Pa → Option AO} {N : Nat} {w w' : World} {P : Program} {o : Oper}
/-- A slice's cells. -/
theorem R.loadSl (hR : R E B m h N w) {id : Pa} {sz : Nat} {cs : List V} (ho : h id = some (.cells sz cs)) {pl : Pl} (hm : m id = some pl) {off off' cap' : Nat} (hoff : off' = pl.base + off ∨ cap' = 0) (n : Nat)
    (hn : n ≤ (cs.drop off).length) (hcap : cap' = 0 → n = 0) :
    ∃ cs' : List Value, VRs m ((cs.drop off).take n) cs' ∧ cs'.length = n ∧ ∀ j v, cs'[j]? = some v → w.cell? ((⟨pl.blk, off', none⟩ : Addr).add j) = some v := by
  rcases hoff with rfl | e
  · obtain ⟨cs', h1, h2⟩ := hR.cells ho hm off n
    exact ⟨cs', h1, by rw [← h1.len, List.length_take]; omega, h2⟩
  · obtain rfl := hcap e
    exact ⟨[], by simpa using VRs.nil, rfl, by simp⟩

/-! ### Numbers -/
theorem wrap_lim {k : IntKind} {n : Nat} (h : n < lim k) : k.wrap (n : Int) = (n : Int) := by
  cases k <;> simp [IntKind.wrap, IntKind.bits, IntKind.signed, lim] at h ⊢ <;> omega
theorem wrap_mod {k : IntKind} (hs : sgn k = false) (n : Int) : k.wrap n = n % (lim k : Int) := by
  cases k <;> simp [sgn] at hs <;> simp [IntKind.wrap, IntKind.bits, IntKind.signed, lim]
theorem lim_pow {k : IntKind} (hs : sgn k = false) : lim k = 2 ^ k.bits := by cases k <;> simp [sgn] at hs <;> rfl
theorem bitsOf_eq (k : IntKind) : bitsOf k = k.bits := by cases k <;> rfl
theorem ofN_spec {k : IntKind} {n : Nat} {K : V → Bool} (h : ofN k n K = true) : ∃ r : Int, K (.i k r) = true ∧ k.wrap (n : Int) = r := by
  unfold ofN at h
  rw [ife_iff] at h
  rcases h with ⟨hs, h⟩ | ⟨hs, h⟩
  · rw [yes_iff, fNat_eq] at h
    exact ⟨_, h.2, wrap_lim (by simpa using h.1)⟩
  · rw [fNat_eq] at h
    exact ⟨_, h, by rw [wrap_mod hs]; rfl⟩
theorem fitN_spec {k : IntKind} {n : Nat} {K : V → Bool} (h : fitN k n K = true) : K (.i k (n : Int)) = true ∧ n < lim k := by
  unfold fitN at h
  rw [yes_iff, fNat_eq] at h
  exact ⟨h.2, by simpa using h.1⟩
/-- What a reckoning with two numbers yields. -/
def GS (g : G) (f : Value → Value → Sem Value) : Prop := ∀ {k : IntKind} {a b : Nat} {K : V → Bool}, g k a b K = true → ∃ r : Int, K (.i k r) = true ∧ ∀ (P : Program) w, (f (.int k (a : Int)) (.int k (b : Int))).run P w = .ok (.int k r) w
theorem gs_add (t : TypeId) : GS gAdd (binOp .add t) := fun {k a b K} h => by
  obtain ⟨r, h1, h2⟩ := ofN_spec h
  exact ⟨r, h1, fun P w => by simp [binOp, Op.intArith, ← h2]⟩
theorem gs_mul (t : TypeId) : GS gMul (binOp .mul t) := fun {k a b K} h => by
  obtain ⟨r, h1, h2⟩ := ofN_spec h
  exact ⟨r, h1, fun P w => by simp [binOp, Op.intArith, ← h2]⟩
theorem gs_sub (t : TypeId) : GS gSub (binOp .sub t) := fun {k a b K} h => by
  unfold gSub at h
  rw [ife_iff] at h
  rcases h with ⟨hle, h⟩ | ⟨hle, h⟩
  · obtain ⟨r, h1, h2⟩ := ofN_spec h
    have : b ≤ a := by simpa using hle
    refine ⟨r, h1, fun P w => ?_⟩
    rw [Int.ofNat_sub this] at h2
    simp [binOp, Op.intArith, h2]
  · have hlt : a < b := by
      rcases Nat.lt_or_ge a b with c | c
      · exact c
      · rw [Nat.ble_eq_true_of_le c] at hle; cases hle
    rw [ife_iff] at h
    rcases h with ⟨hs, h⟩ | ⟨hs, h⟩
    · rw [yes_iff, fNat_eq] at h
      have hb : b - a ≤ lim k := by simpa using h.1
      refine ⟨_, h.2, fun P w => ?_⟩
      have : k.wrap ((a : Int) - b) = Int.negSucc (b - a - 1) := by
        cases k <;> simp [sgn] at hs <;> simp [IntKind.wrap, IntKind.bits, IntKind.signed, lim] at hb ⊢ <;> omega
      simp [binOp, Op.intArith, this]
    · rw [yes_iff] at h
      have hb : b ≤ a + lim k := by simpa using h.1
      obtain ⟨r, h1, h2⟩ := ofN_spec h.2
      refine ⟨r, h1, fun P w => ?_⟩
      have : k.wrap ((a : Int) - b) = r := by
        rw [wrap_mod hs] at h2 ⊢
        rw [← h2]
        clear h h1 h2 hle
        cases k <;> simp [sgn] at hs <;> simp only [lim] at hb ⊢ <;> omega
      simp [binOp, Op.intArith, this]
theorem gs_quo (t : TypeId) : GS gQuo (binOp .quo t) := fun {k a b K} h => by
  unfold gQuo at h
  rw [ife_iff] at h
  rcases h with ⟨_, h⟩ | ⟨hb, h⟩
  · cases h
  · obtain ⟨r, h1, h2⟩ := ofN_spec h
    have hb : b ≠ 0 := fun e => by subst e; simp at hb
    refine ⟨r, h1, fun P w => ?_⟩
    have : (b : Int) ≠ 0 := by omega
    simp [binOp, Op.intDiv, hb, ← h2]
theorem gs_rem (t : TypeId) : GS gRem (binOp .rem t) := fun {k a b K} h => by
  unfold gRem at h
  rw [ife_iff] at h
  rcases h with ⟨_, h⟩ | ⟨hb, h⟩
  · cases h
  · obtain ⟨h1, h2⟩ := fitN_spec h
    have hb : b ≠ 0 := fun e => by subst e; simp at hb
    refine ⟨_, h1, fun P w => ?_⟩
    simp [binOp, Op.intDiv, hb, Int.tmod_eq_emod_of_nonneg]
theorem bits_mod (k : IntKind) (a : Nat) : (BitVec.ofInt k.bits (a : Int)).toNat = a % 2 ^ k.bits := by
  rw [BitVec.ofInt_natCast, BitVec.toNat_ofNat]
theorem gs_bits {op : BinOp} {f : Nat → Nat → Nat} (t : TypeId) (g : G) (hg : g = fun k a b K => ife (sgn k) false (ofN k (f a b) K))
    (hr : ∀ (k : IntKind) (a b : Nat), ∃ n : Nat, n = f a b % 2 ^ k.bits ∧ ∀ (P : Program) w, (binOp op t (.int k (a : Int)) (.int k (b : Int))).run P w = .ok (.int k (k.wrap (n : Int))) w) : GS g (binOp op t) := fun {k a b K} h => by
  subst hg
  simp only [] at h
  rw [ife_iff] at h
  rcases h with ⟨_, h⟩ | ⟨hs, h⟩
  · cases h
  · obtain ⟨r, h1, h2⟩ := ofN_spec h
    obtain ⟨n, h3, h4⟩ := hr k a b
    refine ⟨r, h1, fun P w => ?_⟩
    rw [h4 P w, ← h2, wrap_mod hs, wrap_mod hs, h3, lim_pow hs]
    exact congrArg (fun n : Int => Result.ok (Value.int k n) w) (congrArg Int.ofNat (Nat.mod_mod _ _))
theorem gs_and (t : TypeId) : GS gAnd (binOp .and t) := gs_bits t gAnd (f := Nat.land) rfl fun k a b =>
  ⟨_, rfl, fun P w => by
    have : (BitVec.ofInt k.bits (a : Int) &&& BitVec.ofInt k.bits (b : Int)).toNat = (a &&& b) % 2 ^ k.bits := by rw [BitVec.toNat_and, bits_mod, bits_mod, Nat.and_mod_two_pow]
    simp only [binOp, Op.intBits, ne_eq, not_true_eq_false, if_false, Sem.run_pure, this]; rfl⟩
theorem gs_or (t : TypeId) : GS gOr (binOp .or t) := gs_bits t gOr (f := Nat.lor) rfl fun k a b =>
  ⟨_, rfl, fun P w => by
    have : (BitVec.ofInt k.bits (a : Int) ||| BitVec.ofInt k.bits (b : Int)).toNat = (a ||| b) % 2 ^ k.bits := by rw [BitVec.toNat_or, bits_mod, bits_mod, Nat.or_mod_two_pow]
    simp only [binOp, Op.intBits, ne_eq, not_true_eq_false, if_false, Sem.run_pure, this]; rfl⟩
theorem gs_xor (t : TypeId) : GS gXor (binOp .xor t) := gs_bits t gXor (f := Nat.xor) rfl fun k a b =>
  ⟨_, rfl, fun P w => by
    have : (BitVec.ofInt k.bits (a : Int) ^^^ BitVec.ofInt k.bits (b : Int)).toNat = (a ^^^ b) % 2 ^ k.bits := by rw [BitVec.toNat_xor, bits_mod, bits_mod, Nat.xor_mod_two_pow]
    simp only [binOp, Op.intBits, ne_eq, not_true_eq_false, if_false, Sem.run_pure, this]; rfl⟩
def GSh (g : G) (f : Value → Value → Sem Value) : Prop := ∀ {k j : IntKind} {a b : Nat} {K : V → Bool}, g k a b K = true → ∃ r : Int, K (.i k r) = true ∧ ∀ (P : Program) w, (f (.int k (a : Int)) (.int j (b : Int))).run P w = .ok (.int k r) w
theorem gs_shl (t : TypeId) : GSh gShl (binOp .shl t) := fun {k j a b K} h => by
  unfold gShl at h
  rw [ife_iff] at h
  rcases h with ⟨_, h⟩ | ⟨hs, h⟩
  · cases h
  · obtain ⟨r, h1, h2⟩ := ofN_spec h
    refine ⟨r, h1, fun P w => ?_⟩
    have hb : ¬ ((b : Int) < 0) := by omega
    rw [bitsOf_eq] at h2
    have : (a : Int) * 2 ^ (min b k.bits) = ((a * 2 ^ (Nat.min b k.bits) : Nat) : Int) := by push_cast; rfl
    simp only [binOp, Op.shift, hb, if_false, Int.toNat_natCast, Sem.run_pure, this, h2]
theorem gs_shr (t : TypeId) : GSh gShr (binOp .shr t) := fun {k j a b K} h => by
  obtain ⟨h1, _⟩ := fitN_spec h
  refine ⟨_, h1, fun P w => ?_⟩
  have hb : ¬ ((b : Int) < 0) := by omega
  have : (a : Int).fdiv (2 ^ (min b k.bits)) = ((a / 2 ^ (Nat.min b (bitsOf k)) : Nat) : Int) := by
    rw [bitsOf_eq, Int.fdiv_eq_ediv_of_nonneg _ (by exact Int.le_of_lt (Int.pow_pos (by decide)))]; push_cast; rfl
  simp only [binOp, Op.shift, hb, if_false, Int.toNat_natCast, Sem.run_pure, this]
theorem iLt_eq (a b : Int) : iLt a b = decide (a < b) := by
  rw [Bool.eq_iff_iff, decide_eq_true_iff]
  cases a <;> cases b <;> simp [iLt] <;> omega
theorem iBeq_eq (a b : Int) : iBeq a b = (a == b) := by
  rw [Bool.eq_iff_iff, iBeq_iff, beq_iff_eq]
def CS (c : Int → Int → Bool) (op : BinOp) : Prop := ∀ (P : Program) (t : TypeId) (k : IntKind) (a b : Int) w, (binOp op t (.int k a) (.int k b)).run P w = .ok (.bool (c a b)) w
theorem cs_eq : CS cEq .eql := fun P t k a b w => by simp [binOp, Op.intCmp, cEq, iBeq_eq]
theorem cs_ne : CS cNe .neq := fun P t k a b w => by simp [binOp, Op.intCmp, cNe, iBeq_eq, bne]
theorem cs_lt : CS cLt .lss := fun P t k a b w => by simp [binOp, Op.intCmp, cLt, iLt_eq]
theorem cs_gt : CS cGt .gtr := fun P t k a b w => by simp [binOp, Op.intCmp, cGt, iLt_eq]
theorem cs_le : CS cLe .leq := fun P t k a b w => by simp [binOp, Op.intCmp, cLe, iLt_eq]; rw [Bool.eq_iff_iff]; simp
theorem cs_ge : CS cGe .geq := fun P t k a b w => by simp [binOp, Op.intCmp, cGe, iLt_eq]; rw [Bool.eq_iff_iff]; simp

/-! ### Operations with two operands -/
theorem guard_int (op : BinOp) (t : TypeId) (x y : Operand) (k j : IntKind) (a b : Int) (P : Program) (w : World) : (eqGuard op t x y (.int k a) (.int j b)).run P w = .ok () w := by
  unfold eqGuard; cases op <;> simp
theorem guard_bool (op : BinOp) (t : TypeId) (x y : Operand) (a b : Bool) (P : Program) (w : World) : (eqGuard op t x y (.bool a) (.bool b)).run P w = .ok () w := by
  unfold eqGuard; cases op <;> simp
theorem guard_str (op : BinOp) (t : TypeId) (x y : Operand) (a b : ByteArray) (P : Program) (w : World) : (eqGuard op t x y (.string a) (.string b)).run P w = .ok () w := by
  unfold eqGuard; cases op <;> simp
section
variable {op : BinOp} {t ty : TypeId} {x y : Operand} {X Y : Ev.X}
theorem qs_int (ho : o.op = .binOp op t x y ty) (hx : cX x = some X) (hy : cX y = some Y) {g : G} (hg : GS g (binOp op t)) : QS P o false (qInt g X Y) where
  run := fun {A σ K} h => by
    obtain ⟨v, h1, h2⟩ := xv_spec (S := (· ∈ o.op.operands)) hx (by simp [ho, Op.operands]) (K := fun v => asN v fun k a => xv Y A fun u => asN u fun j b => yes (kBeq k j) (g k a b K)) h
    obtain ⟨k, a, rfl, h3⟩ := asN_spec h1
    obtain ⟨u, h4, h5⟩ := xv_spec (S := (· ∈ o.op.operands)) hy (by simp [ho, Op.operands]) (K := fun u => asN u fun j b => yes (kBeq k j) (g k a b K)) h3
    obtain ⟨j, b, rfl, h6⟩ := asN_spec h4
    have h6 : yes (kBeq k j) (g k a b K) = true := h6
    rw [yes_iff] at h6
    obtain rfl := kBeq_eq h6.1
    obtain ⟨r, h7, h8⟩ := hg h6.2
    refine ⟨_, h7, fun {E B m h N a w} hR hh hA => ⟨_, .i _ _, ?_⟩⟩
    have e1 := h2 m a hA
    have e2 := h5 m a hA
    generalize hg1 : a.eval x = b1 at e1
    generalize hg2 : a.eval y = b2 at e2
    cases e1; cases e2
    have h8 := h8 P w
    simp only [execOp, ho, hg1, hg2, Sem.run_bind, guard_int, Result.andThen_ok, Int.ofNat_eq_natCast, h8, Sem.run_pure]
theorem qs_sh (ho : o.op = .binOp op t x y ty) (hx : cX x = some X) (hy : cX y = some Y) {g : G} (hg : GSh g (binOp op t)) : QS P o false (qSh g X Y) where
  run := fun {A σ K} h => by
    obtain ⟨v, h1, h2⟩ := xv_spec (S := (· ∈ o.op.operands)) hx (by simp [ho, Op.operands]) (K := fun v => asN v fun k a => xv Y A fun u => asN u fun j b => g k a b K) h
    obtain ⟨k, a, rfl, h3⟩ := asN_spec h1
    obtain ⟨u, h4, h5⟩ := xv_spec (S := (· ∈ o.op.operands)) hy (by simp [ho, Op.operands]) (K := fun u => asN u fun j b => g k a b K) h3
    obtain ⟨j, b, rfl, h6⟩ := asN_spec h4
    obtain ⟨r, h7, h8⟩ := hg (j := j) h6
    refine ⟨_, h7, fun {E B m h N a w} hR hh hA => ⟨_, .i _ _, ?_⟩⟩
    have e1 := h2 m a hA
    have e2 := h5 m a hA
    generalize hg1 : a.eval x = b1 at e1
    generalize hg2 : a.eval y = b2 at e2
    cases e1; cases e2
    have h8 := h8 P w
    simp only [execOp, ho, hg1, hg2, Sem.run_bind, guard_int, Result.andThen_ok, Int.ofNat_eq_natCast, h8, Sem.run_pure]
theorem qs_cmp (ho : o.op = .binOp op t x y ty) (hx : cX x = some X) (hy : cX y = some Y) {c : Int → Int → Bool} (hc : CS c op) : QS P o false (qCmp c X Y) where
  run := fun {A σ K} h => by
    obtain ⟨v, h1, h2⟩ := xv_spec (S := (· ∈ o.op.operands)) hx (by simp [ho, Op.operands]) (K := fun v => asI v fun k a => xv Y A fun u => asI u fun j b => yes (kBeq k j) (K (.b (c a b)))) h
    obtain ⟨k, a, rfl, h3⟩ := asI_spec h1
    obtain ⟨u, h4, h5⟩ := xv_spec (S := (· ∈ o.op.operands)) hy (by simp [ho, Op.operands]) (K := fun u => asI u fun j b => yes (kBeq k j) (K (.b (c a b)))) h3
    obtain ⟨j, b, rfl, h6⟩ := asI_spec h4
    have h6 : yes (kBeq k j) (K (.b (c a b))) = true := h6
    rw [yes_iff] at h6
    obtain rfl := kBeq_eq h6.1
    refine ⟨_, h6.2, fun {E B m h N a w} hR hh hA => ⟨_, .b _, ?_⟩⟩
    have e1 := h2 m a hA
    have e2 := h5 m a hA
    generalize hg1 : a.eval x = b1 at e1
    generalize hg2 : a.eval y = b2 at e2
    cases e1; cases e2
    have h8 := hc P t k ‹_› ‹_› w
    simp only [execOp, ho, hg1, hg2, Sem.run_bind, guard_int, Result.andThen_ok, hc P, Sem.run_pure]
theorem run_eq {u v : Value} {b : Bool} (h : ∀ d, (Op.equalIn (d + 1) t u v).run P w = .ok b w) : (Op.equal t u v).run P w = .ok b w := h 9999
theorem run_eqs (neg : Bool) (hop : op = bif neg then .neq else .eql) (u v : Value) (b : Bool) (hu : ∀ k a, u ≠ .int k a) (hs : ∀ a, u ≠ .string a) (hf : ∀ k a, u ≠ .float k a) (hc : ∀ k a b, u ≠ .complex k a b)
    (he : (Op.equal t u v).run P w = .ok b w) : (binOp op t u v).run P w = .ok (.bool (xor neg b)) w := by
  subst hop
  cases neg
  · have : binOp .eql t u v = (do pure (.bool (← Op.equal t u v))) := by
      cases u <;> first | rfl | exact absurd rfl (hu _ _) | exact absurd rfl (hs _) | exact absurd rfl (hf _ _) | exact absurd rfl (hc _ _ _)
    simp [this, he]
  · have : binOp .neq t u v = (do pure (.bool (!(← Op.equal t u v)))) := by
      cases u <;> first | rfl | exact absurd rfl (hu _ _) | exact absurd rfl (hs _) | exact absurd rfl (hf _ _) | exact absurd rfl (hc _ _ _)
    simp [this, he]
theorem qs_eqb (neg : Bool) (hop : op = bif neg then .neq else .eql) (ho : o.op = .binOp op t x y ty) (hx : cX x = some X) (hy : cX y = some Y) (hu : P.underlying t = some .bool) : QS P o false (qEqB neg X Y) where
  run := fun {A σ K} h => by
    obtain ⟨v, h1, h2⟩ := xv_spec (S := (· ∈ o.op.operands)) hx (by simp [ho, Op.operands]) (K := fun v => asB v fun a => xv Y A fun u => asB u fun b => K (.b (xor neg (a == b)))) h
    obtain ⟨p, rfl, h3⟩ := asB_spec h1
    obtain ⟨u, h4, h5⟩ := xv_spec (S := (· ∈ o.op.operands)) hy (by simp [ho, Op.operands]) (K := fun u => asB u fun b => K (.b (xor neg (p == b)))) h3
    obtain ⟨q, rfl, h6⟩ := asB_spec h4
    refine ⟨_, h6, fun {E B m h N a w} hR hh hA => ⟨_, .b _, ?_⟩⟩
    have e1 := h2 m a hA
    have e2 := h5 m a hA
    generalize hg1 : a.eval x = b1 at e1
    generalize hg2 : a.eval y = b2 at e2
    cases e1; cases e2
    have := run_eqs (P := P) (w := w) (t := t) neg hop (.bool p) (.bool q) (p == q) (by simp) (by simp) (by simp) (by simp) (run_eq fun d => by simp [Op.equalIn, run_underlying hu])
    simp only [execOp, ho, hg1, hg2, Sem.run_bind, guard_bool, Result.andThen_ok, this, Sem.run_pure]
theorem bytesEq_eq (a : List UInt8) : ∀ b, bytesEq a b = (a == b) := by
  induction a with
  | nil => intro b; cases b <;> rfl
  | cons x a ih =>
    intro b
    cases b with
    | nil => rfl
    | cons y b =>
      have : bytesEq (x :: a) (y :: b) = yes (Nat.beq x.toNat y.toNat) (bytesEq a b) := rfl
      rw [this, ih, Bool.eq_iff_iff, yes_iff, Nat.beq_eq, beq_iff_eq, beq_iff_eq, List.cons.injEq, UInt8.toNat_inj]
theorem qs_eqs (neg : Bool) (hop : op = bif neg then .neq else .eql) (ho : o.op = .binOp op t x y ty) (hx : cX x = some X) (hy : cX y = some Y) : QS P o false (qEqS neg X Y) where
  run := fun {A σ K} h => by
    obtain ⟨v, h1, h2⟩ := xv_spec (S := (· ∈ o.op.operands)) hx (by simp [ho, Op.operands]) (K := fun v => asS v fun a => xv Y A fun u => asS u fun b => K (.b (xor neg (bytesEq a.data.toList b.data.toList)))) h
    obtain ⟨p, rfl, h3⟩ := asS_spec h1
    obtain ⟨u, h4, h5⟩ := xv_spec (S := (· ∈ o.op.operands)) hy (by simp [ho, Op.operands]) (K := fun u => asS u fun b => K (.b (xor neg (bytesEq p.data.toList b.data.toList)))) h3
    obtain ⟨q, rfl, h6⟩ := asS_spec h4
    refine ⟨_, h6, fun {E B m h N a w} hR hh hA => ⟨_, .b _, ?_⟩⟩
    have e1 := h2 m a hA
    have e2 := h5 m a hA
    generalize hg1 : a.eval x = b1 at e1
    generalize hg2 : a.eval y = b2 at e2
    cases e1; cases e2
    simp only [execOp, ho, hg1, hg2, Sem.run_bind, guard_str, Result.andThen_ok, Sem.run_pure]
    subst hop
    cases neg <;> simp [binOp, Op.stringOp, bytesEq_eq, ByteArray.toList_eq]
end
end
end Go.Ev
namespace Go.Ev
open Go
section
variable {E : Env} {B : Nat} {m : Mp} {h : Pa → Option AO} {N : Nat} {w w' : World} {P : Program} {o : Oper}

/-! ### What stands for what -/
theorem VR.p_inv {id : Pa} {off : Nat} {b : Value} (h : VR m (.p id off) b) : ∃ pl, m id = some pl ∧ b = .pointer (some ⟨pl.blk, pl.base + off, none⟩) := by
  cases h with
  | p _ _ pl h => exact ⟨pl, h, rfl⟩
theorem VR.sl_inv {id : Pa} {off len cap : Nat} {b : Value} (h : VR m (.sl id off len cap) b) : ∃ pl off' cap', m id = some pl ∧ b = .slice (some ⟨pl.blk, off', none⟩) len cap' ∧ len ≤ cap ∧ cap ≤ cap' ∧
    (off' = pl.base + off ∨ cap' = 0) ∧ off' + cap' * pl.esz ≤ pl.size := by
  cases h with
  | sl _ _ _ _ pl off' cap' h hl hc ho hb => exact ⟨pl, off', cap', h, rfl, hl, hc, ho, hb⟩
theorem VR.mp_inv {id : Pa} {b : Value} (h : VR m (.mp id) b) : ∃ pl, m id = some pl ∧ b = .map (some pl.blk) := by
  cases h with
  | mp _ pl h => exact ⟨pl, h, rfl⟩
theorem VR.ch_inv {id : Pa} {b : Value} (h : VR m (.ch id) b) : ∃ pl, m id = some pl ∧ b = .chan (some pl.blk) := by
  cases h with
  | ch _ pl h => exact ⟨pl, h, rfl⟩
theorem VR.i_inv {k : IntKind} {n : Int} {b : Value} (h : VR m (.i k n) b) : b = .int k n := by cases h; rfl

/-! ### Is it nil? -/
theorem isNil_spec {v : V} {K : Bool → Bool} (h : isNil v K = true) : ∃ t, K t = true ∧ ((t = true ∧ (v = .np ∨ v = .ns ∨ v = .ni)) ∨ (t = false ∧ ((∃ id off, v = .p id off) ∨ (∃ id off n c, v = .sl id off n c) ∨ ∃ t u, v = .fc t u))) := by
  cases v <;> first | exact absurd (show false = true from h) (by simp) | exact ⟨true, h, .inl ⟨rfl, by simp⟩⟩ | exact ⟨false, h, .inr ⟨rfl, by simp⟩⟩
/-- Which types' values each number means. -/
def nilTy : Nat → TypeDesc → Prop
  | 1, d => ∃ e, d = .pointer e
  | 2, d => ∃ e, d = .slice e
  | 3, d => ∃ ms, d = .interface ms
  | _, _ => False
section
variable {op : BinOp} {t ty : TypeId} {x y : Operand} {X Y : Ev.X}
theorem isConst_cases (x : Operand) : isConst x = true → ∃ v, x = .const v := by cases x <;> simp [isConst]
theorem qs_eqn (neg : Bool) (no : Nat) {d : TypeDesc} (hop : op = bif neg then .neq else .eql) (ho : o.op = .binOp op t x y ty) (hx : cX x = some X) (hy : cX y = some Y) (hu : P.underlying t = some d) (hd : nilTy no d)
    (hcst : no = 3 → isConst x = true ∨ isConst y = true) : QS P o false (qEqN neg no X Y) where
  run := fun {A σ K} h => by
    obtain ⟨u, h1, h2⟩ := xv_spec (S := (· ∈ o.op.operands)) hy (by simp [ho, Op.operands]) (K := fun u => isNil u fun w => yes w (yes (Nat.beq (nilNo u) no) (xv X A fun v => isNil v fun t => yes (Nat.beq (nilNo v) no) (K (.b (xor neg t)))))) h
    obtain ⟨b, h3, h4⟩ := isNil_spec h1
    rw [yes_iff] at h3
    obtain ⟨rfl, h3⟩ := h3
    rw [yes_iff] at h3
    obtain ⟨hn1, h3⟩ := h3
    obtain ⟨v, h5, h6⟩ := xv_spec (S := (· ∈ o.op.operands)) hx (by simp [ho, Op.operands]) (K := fun v => isNil v fun t => yes (Nat.beq (nilNo v) no) (K (.b (xor neg t)))) h3
    obtain ⟨b, h7, h8⟩ := isNil_spec h5
    rw [yes_iff] at h7
    obtain ⟨hn2, h7⟩ := h7
    refine ⟨_, h7, fun {E B m h N a w} hR hh hA => ⟨_, .b _, ?_⟩⟩
    have e1 := h6 m a hA
    have e2 := h2 m a hA
    generalize hg1 : a.eval x = b1 at e1
    generalize hg2 : a.eval y = b2 at e2
    have hn1 := Nat.eq_of_beq_eq_true hn1
    have hn2 := Nat.eq_of_beq_eq_true hn2
    have fin : ∀ (hgu : (eqGuard op t x y b1 b2).run P w = .ok () w) (hi : ∀ k a, b1 ≠ .int k a) (hs : ∀ a, b1 ≠ .string a) (hf : ∀ k a, b1 ≠ .float k a) (hc : ∀ k a c, b1 ≠ .complex k a c) (he : (Op.equal t b1 b2).run P w = .ok b w),
        (execOp a.eval o).run P w = .ok (.value (.bool (xor neg b))) w := fun hgu hi hs hf hc he => by
      have := run_eqs (P := P) (w := w) (t := t) neg hop b1 b2 b hi hs hf hc he
      simp only [execOp, ho, hg1, hg2, Sem.run_bind, hgu, Result.andThen_ok, this, Sem.run_pure]
    rcases h4 with ⟨_, rfl | rfl | rfl⟩ | ⟨h, _⟩
    · simp only [nilNo] at hn1; subst hn1
      obtain ⟨e, rfl⟩ := hd
      rcases h8 with ⟨rfl, rfl | rfl | rfl⟩ | ⟨rfl, ⟨id, off, rfl⟩ | ⟨id, off, n, c, rfl⟩ | ⟨t', u, rfl⟩⟩ <;> simp only [nilNo] at hn2 <;> first | omega | skip
      · cases e1; cases e2
        exact fin (by unfold eqGuard; subst hop; cases neg <;> simp) (by simp) (by simp) (by simp) (by simp) (run_eq fun d => by simp [Op.equalIn, run_underlying hu])
      · cases e1; cases e2
        exact fin (by unfold eqGuard; subst hop; cases neg <;> simp) (by simp) (by simp) (by simp) (by simp) (run_eq fun d => by simp [Op.equalIn, run_underlying hu])
    · simp only [nilNo] at hn1; subst hn1
      obtain ⟨e, rfl⟩ := hd
      rcases h8 with ⟨rfl, rfl | rfl | rfl⟩ | ⟨rfl, ⟨id, off, rfl⟩ | ⟨id, off, n, c, rfl⟩ | ⟨t', u, rfl⟩⟩ <;> simp only [nilNo] at hn2 <;> first | omega | skip
      · cases e1; cases e2
        exact fin (by unfold eqGuard; subst hop; cases neg <;> simp) (by simp) (by simp) (by simp) (by simp) (run_eq fun d => by simp [Op.equalIn, run_underlying hu])
      · cases e1; cases e2
        exact fin (by unfold eqGuard; subst hop; cases neg <;> simp) (by simp) (by simp) (by simp) (by simp) (run_eq fun d => by simp [Op.equalIn, run_underlying hu])
    · simp only [nilNo] at hn1; subst hn1
      obtain ⟨ms, rfl⟩ := hd
      have hcst := hcst rfl
      rcases h8 with ⟨rfl, rfl | rfl | rfl⟩ | ⟨rfl, ⟨id, off, rfl⟩ | ⟨id, off, n, c, rfl⟩ | ⟨t', u, rfl⟩⟩ <;> simp only [nilNo] at hn2 <;> first | omega | skip
      · cases e1; cases e2
        refine fin ?_ (by simp) (by simp) (by simp) (by simp) (run_eq fun d => by simp [Op.equalIn, run_underlying hu])
        unfold eqGuard
        subst hop
        rcases hcst with hcst | hcst <;> obtain ⟨v, rfl⟩ := isConst_cases _ hcst <;> cases neg <;> simp
      · cases e1; cases e2
        exact fin (by unfold eqGuard; subst hop; cases neg <;> simp) (by simp) (by simp) (by simp) (by simp) (run_eq fun d => by simp [Op.equalIn, run_underlying hu])
    · cases h
end

/-! ### Conversions -/
theorem qs_cint {s d : TypeId} {x : Operand} {X : Ev.X} {j k : IntKind} (ho : o.op = .convert s d x) (hx : cX x = some X) (hs : P.underlying s = some (.int j)) (hd : P.underlying d = some (.int k)) : QS P o false (qCint k X) where
  run := fun {A σ K} h => by
    obtain ⟨v, h1, h2⟩ := xv_spec (S := (· ∈ o.op.operands)) hx (by simp [ho, Op.operands]) (K := fun v => asN v fun _ n => ofN k n K) h
    obtain ⟨i, n, rfl, h3⟩ := asN_spec h1
    obtain ⟨r, h4, h5⟩ := ofN_spec h3
    refine ⟨_, h4, fun {E B m h N a w} hR hh hA => ⟨_, .i _ _, ?_⟩⟩
    have e1 := h2 m a hA
    generalize hg1 : a.eval x = b1 at e1
    cases e1
    simp only [execOp, ho, hg1, convert, Sem.run_bind, run_underlying hs, run_underlying hd, Result.andThen_ok, Conv.intToInt, Sem.run_pure, Int.ofNat_eq_natCast, h5]
theorem bytesK_spec : ∀ {l : List V} {K : List UInt8 → Bool}, bytesK l K = true → ∃ ns : List Nat, l = ns.map (fun n => V.i .u8 (.ofNat n)) ∧ K (ns.map UInt8.ofNat) = true
  | [], K, h => ⟨[], rfl, h⟩
  | v :: l, K, h => by
    have h : asN v (fun k n => yes (kBeq k .u8) (bytesK l fun r => K (UInt8.ofNat n :: r))) = true := h
    obtain ⟨k, n, rfl, h1⟩ := asN_spec h
    rw [yes_iff] at h1
    obtain rfl := kBeq_eq h1.1
    obtain ⟨ns, rfl, h2⟩ := bytesK_spec h1.2
    exact ⟨n :: ns, rfl, h2⟩
theorem VRs.bytes : ∀ {ns : List Nat} {l : List Value}, VRs m (ns.map fun n => V.i .u8 (.ofNat n)) l → l = ns.map fun n => .int .u8 (n : Int)
  | [], l, h => by
    cases l with
    | nil => rfl
    | cons v l => exact absurd h.len (by simp)
  | n :: ns, l, h => by
    obtain ⟨v', t', rfl, h1, h2⟩ := h.uncons
    cases h1
    rw [h2.bytes]
    rfl
theorem foldl_push (ns : List Nat) : ∀ s : List UInt8, (ns.map Int.ofNat).foldl (fun r n => r.push (UInt8.ofNat n.toNat)) (⟨⟨s⟩⟩ : ByteArray) = ⟨⟨s ++ ns.map UInt8.ofNat⟩⟩ := by
  induction ns with
  | nil => intro s; simp
  | cons n ns ih =>
    intro s
    have : (⟨⟨s⟩⟩ : ByteArray).push (UInt8.ofNat ((Int.ofNat n).toNat)) = ⟨⟨s ++ [UInt8.ofNat n]⟩⟩ := by simp [ByteArray.push]
    simp only [List.map_cons, List.foldl_cons, this, ih, List.append_assoc, List.singleton_append]
theorem qs_cstr {s d e : TypeId} {x : Operand} {X : Ev.X} (ho : o.op = .convert s d x) (hx : cX x = some X) (hs : P.underlying s = some (.slice e)) (hd : P.underlying d = some .string) (he : P.underlying e = some (.int .u8)) : QS P o true (qCstr X) where
  run := fun {A σ K} h => by
    obtain ⟨v, h1, h2⟩ := xv_spec (S := (· ∈ o.op.operands)) hx (by simp [ho, Op.operands])
      (K := fun v => asSl v false fun id o n _ => T.getK id σ.heap fun ob => asCells ob fun _ cs => dropK o cs fun l => takeK n l fun l => bytesK l fun bs => K (.s ⟨⟨bs⟩⟩)) h
    rcases asSl_spec h1 with ⟨_, h⟩ | ⟨id, off, n, c, rfl, h3⟩
    · cases h
    obtain ⟨ob, h4, h5⟩ := T.getK_spec id (t := σ.heap) h3
    obtain ⟨sz, cs, rfl, h6⟩ := asCells_spec h5
    obtain ⟨h7, h8⟩ := dropK_spec off h6
    obtain ⟨h9, h10⟩ := takeK_spec _ h8
    obtain ⟨ns, h11, h12⟩ := bytesK_spec h10
    refine ⟨_, h12, fun {E B m h N a w} hR hh hA => ⟨_, .s _, ?_⟩⟩
    have e1 := h2 m a hA
    obtain ⟨pl, off', cap', hm, hg1, hl, hc, hof, hb⟩ := e1.sl_inv
    obtain ⟨cs', h13, h14, h15⟩ := hR.loadSl (hh rfl id _ h4) hm hof n h9 (fun e => by omega)
    rw [h11] at h13
    have h16 := h13.bytes
    have hl := run_loadCells_list (P := P) w _ cs' h15
    rw [h14, h16] at hl
    have := run_bytesToString (P := P) w ⟨pl.blk, off', none⟩ n cap' (ns.map Int.ofNat) (by rw [hl]; simp)
    have hf := foldl_push ns []
    have hemp : (ByteArray.empty : ByteArray) = ⟨⟨[]⟩⟩ := rfl
    rw [hemp, hf] at this
    simp only [execOp, ho, hg1, Sem.run_bind, run_convert_bytes_string w s d e _ _ _ hs he hd, this, Result.andThen_ok, Sem.run_pure, List.nil_append]

/-! ### Places, slices -/
theorem qs_ia {t e : TypeId} {x i : Operand} {X I : Ev.X} (ho : o.op = .indexAddr t x i) (hx : cX x = some X) (hi : cX i = some I) (hu : P.underlying t = some (.slice e)) (hz : Nat.blt 0 (P.cellsOf e) = true) :
    QS P o false (qIa (P.cellsOf e) X I) where
  run := fun {A σ K} h => by
    obtain ⟨v, h1, h2⟩ := xv_spec (S := (· ∈ o.op.operands)) hx (by simp [ho, Op.operands]) (K := fun v => asSl v false fun id o n _ => xv I A fun u => asN u fun _ j => yes (Nat.blt j n) (fNat (o + j * P.cellsOf e) fun o => K (.p id o))) h
    rcases asSl_spec h1 with ⟨_, h⟩ | ⟨id, off, n, c, rfl, h3⟩
    · cases h
    obtain ⟨u, h4, h5⟩ := xv_spec (S := (· ∈ o.op.operands)) hi (by simp [ho, Op.operands]) (K := fun u => asN u fun _ j => yes (Nat.blt j n) (fNat (off + j * P.cellsOf e) fun o => K (.p id o))) h3
    obtain ⟨k, j, rfl, h6⟩ := asN_spec h4
    have h6 : yes (Nat.blt j n) (fNat (off + j * P.cellsOf e) fun o => K (.p id o)) = true := h6
    rw [yes_iff, fNat_eq] at h6
    refine ⟨_, h6.2, fun {E B m h N a w} hR hh hA => ?_⟩
    have hlt : j < n := by simpa using h6.1
    have e1 := h2 m a hA
    have e2 := h5 m a hA
    obtain ⟨pl, off', cap', hm, hg1, hl, hc, hof, hb⟩ := e1.sl_inv
    have hg2 := e2.i_inv
    obtain ⟨ie, hie⟩ := cellsOf_pos hz
    have hof : off' = pl.base + off := hof.resolve_right (by omega)
    subst hof
    refine ⟨_, .p id _ pl hm, ?_⟩
    have : (0 : Int) ≤ (j : Int) ∧ (j : Int) < (n : Int) := by omega
    simp only [execOp, ho, hg1, hg2, Instr.indexAt, asIntOf, Sem.run_bind, Sem.run_pure, run_underlying hu, Result.andThen_ok, Int.ofNat_eq_natCast, this, and_self, if_true, run_sizeOf hie, Int.toNat_natCast, Addr.add_mk, Nat.add_assoc]
section
variable {S : Operand → Prop}
/-- A bound: what is there, or what stands for it. -/
def BV (x : Option Value) (d n : Nat) : Prop := (x = none ∧ n = d) ∨ ∃ k, x = some (.int k (n : Int))
theorem xn_spec {x : Option Operand} {X : Option X} (hc : cXo x = some X) (hS : ∀ y, x = some y → S y) {A : Fr} {d : Nat} {K : Nat → Bool} (h : xn X A d K = true) :
    ∃ n, K n = true ∧ ((x = none ∧ X = none ∧ n = d) ∨ (x.isSome = true ∧ X.isSome = true ∧ ∀ m a, AG S m A a → ∃ k, x.map a.eval = some (.int k (n : Int)))) := by
  obtain ⟨v, h1, h2⟩ := xo_spec (S := S) hc hS (K := fun v => Option.casesOn (motive := fun _ => Bool) v (K d) fun v => asN v fun _ n => K n) h
  cases x with
  | none =>
    simp [cXo] at hc; subst hc
    exact ⟨d, h, .inl ⟨rfl, rfl, rfl⟩⟩
  | some x =>
    have hX : X.isSome = true := by
      simp only [cXo] at hc
      split at hc
      · cases hc; rfl
      · cases hc
    cases v with
    | none =>
      refine ⟨d, h1, .inr ⟨rfl, hX, fun m a hA => ?_⟩⟩
      cases h2 m a hA
    | some v =>
      obtain ⟨k, n, rfl, h3⟩ := asN_spec (v := v) h1
      refine ⟨n, h3, .inr ⟨rfl, hX, fun m a hA => ?_⟩⟩
      have := h2 m a hA
      generalize hg : a.eval x = b at this
      simp only [Option.map_some, hg] at this ⊢
      cases this
      rename_i hv
      rw [hv.i_inv]
      exact ⟨k, rfl⟩
theorem run_bound (k : IntKind) (n y : Nat) (code : BoundsCode) (h : n ≤ y) (w : World) : (Instr.sliceBound (.int k (n : Int)) y code).run P w = .ok n w := by
  have : (0 : Int) ≤ (n : Int) ∧ (n : Int) ≤ (y : Int) := by omega
  simp [Instr.sliceBound, asIntOf, this]
theorem run_bounds (len cap : Nat) (lo hi mx : Option Value) (l h m : Nat) (hl : BV lo 0 l) (hh : BV hi len h) (hm : BV mx cap m) (hx : mx.isSome = true → hi.isSome = true) (h1 : l ≤ h) (h2 : h ≤ m) (h3 : m ≤ cap) (w : World) :
    (Instr.sliceBounds true len cap lo hi mx).run P w = .ok (l, h, m) w := by
  rcases hm with ⟨rfl, rfl⟩ | ⟨k, rfl⟩ <;> rcases hh with ⟨rfl, rfl⟩ | ⟨k2, rfl⟩ <;> rcases hl with ⟨rfl, rfl⟩ | ⟨k3, rfl⟩ <;> first | (simp at hx; done) | simp [Instr.sliceBounds, run_bound _ _ _ _ h1, run_bound _ _ _ _ h2, run_bound _ _ _ _ h3]
end
end
end Go.Ev
