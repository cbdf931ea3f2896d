/- Slices, strings and copies of the evaluator: each says what the real one does. -/
import Derived.Test.YtnphfcaokjdigaaGreatDoorVB
set_option linter.unusedVariables false
set_option linter.unusedSimpArgs false
namespace Go.Ev
open Go
section
variable {E : Env} {B : Nat} {m : Mp} {h : Pa → Option AO} {N : Nat} {w w' : World} {P : Program} {o : Oper}

/-! ### Slices of slices -/
theorem run_slice {t e : TypeId} (hu : P.underlying t = some (.slice e)) (hz : Nat.blt 0 (P.cellsOf e) = true) {a : Addr} {len cap : Nat} {lo hi mx : Option Value} {l h m : Nat}
    (hb : (Instr.sliceBounds true len cap lo hi mx).run P w = .ok (l, h, m) w) :
    (Instr.sliceAt t (.slice (some a) len cap) lo hi mx).run P w = .ok (.slice (some (if m = l then a else a.add (l * P.cellsOf e))) (h - l) (m - l)) w := by
  obtain ⟨ie, hie⟩ := cellsOf_pos hz
  simp [Instr.sliceAt, Instr.slice, run_underlying hu, hb, run_sizeOf hie]
  split <;> rfl
theorem run_slice_nil {t e : TypeId} (hu : P.underlying t = some (.slice e)) (hz : Nat.blt 0 (P.cellsOf e) = true) {lo hi mx : Option Value}
    (hb : (Instr.sliceBounds true 0 0 lo hi mx).run P w = .ok (0, 0, 0) w) : (Instr.sliceAt t (.slice none 0 0) lo hi mx).run P w = .ok (.slice none 0 0) w := by
  obtain ⟨ie, hie⟩ := cellsOf_pos hz
  simp [Instr.sliceAt, Instr.slice, run_underlying hu, hb, run_sizeOf hie]
section
variable {t e : TypeId} {x : Operand} {X : Ev.X} {hi mx : Option Operand} {HI MX : Option Ev.X}
theorem bv_of {S : Operand → Prop} {x : Option Operand} {X : Option Ev.X} {d n : Nat} {A : Fr}
    (h : (x = none ∧ X = none ∧ n = d) ∨ (x.isSome = true ∧ X.isSome = true ∧ ∀ m a, AG S m A a → ∃ k, x.map a.eval = some (.int k (n : Int)))) {a : Act} (hA : AG S m A a) : BV (x.map a.eval) d n := by
  rcases h with ⟨rfl, _, rfl⟩ | ⟨_, _, h⟩
  · exact .inl ⟨rfl, rfl⟩
  · exact .inr (h m a hA)
theorem isSome_of {S : Operand → Prop} {x : Option Operand} {X : Option Ev.X} {d n : Nat} {A : Fr}
    (h : (x = none ∧ X = none ∧ n = d) ∨ (x.isSome = true ∧ X.isSome = true ∧ ∀ m a, AG S m A a → ∃ k, x.map a.eval = some (.int k (n : Int)))) : X.isSome = x.isSome := by
  rcases h with ⟨rfl, rfl, _⟩ | ⟨h1, h2, _⟩
  · rfl
  · rw [h1, h2]
theorem qs_slice (ho : o.op = .slice t x none hi mx) (hx : cX x = some X) (hhi : cXo hi = some HI) (hmx : cXo mx = some MX) (hb : (MX.isNone || HI.isSome) = true) (hu : P.underlying t = some (.slice e)) (hz : Nat.blt 0 (P.cellsOf e) = true) :
    QS P o false (qSlice X HI MX) where
  run := fun {A σ K} hh0 => by
    have hSh : ∀ y, hi = some y → y ∈ o.op.operands := fun y e => by subst e; simp [ho, Op.operands]
    have hSm : ∀ y, mx = some y → y ∈ o.op.operands := fun y e => by subst e; simp [ho, Op.operands]
    obtain ⟨v, h1, h2⟩ := xv_spec (S := (· ∈ o.op.operands)) hx (by simp [ho, Op.operands]) (K := fun v => asSl v
      (xn HI A 0 fun h => xn MX A 0 fun m => yes (Nat.beq (h + m) 0) (K .ns)) fun id o n c => xn HI A n fun h => xn MX A c fun m => yes (Nat.ble h m) (yes (Nat.ble m c) (K (.sl id o h m)))) hh0
    rcases asSl_spec h1 with ⟨rfl, h3⟩ | ⟨id, off, n, c, rfl, h3⟩
    · obtain ⟨h, h4, h5⟩ := xn_spec (S := (· ∈ o.op.operands)) hhi hSh (K := fun h => xn MX A 0 fun m => yes (Nat.beq (h + m) 0) (K .ns)) h3
      obtain ⟨m, h6, h7⟩ := xn_spec (S := (· ∈ o.op.operands)) hmx hSm (K := fun m => yes (Nat.beq (h + m) 0) (K .ns)) h4
      rw [yes_iff] at h6
      have he := Nat.eq_of_beq_eq_true h6.1
      obtain rfl : h = 0 := by omega
      obtain rfl : m = 0 := by omega
      refine ⟨_, h6.2, fun {E B m h N a w} hR hh hA => ⟨_, .ns, ?_⟩⟩
      have e1 := h2 m a hA
      generalize hg1 : a.eval x = b1 at e1
      cases e1
      have := run_bounds (P := P) 0 0 none (hi.map a.eval) (mx.map a.eval) 0 0 0 (.inl ⟨rfl, rfl⟩) (bv_of h5 hA) (bv_of h7 hA) (fun e => by
        have q1 := isSome_of h5; have q2 := isSome_of h7
        simp only [Option.isSome_map] at e ⊢
        rw [← q1]; rw [← q2] at e
        cases MX <;> simp_all) (by omega) (by omega) (by omega) w
      simp [execOp, ho, hg1, run_slice_nil hu hz this]
    · obtain ⟨h, h4, h5⟩ := xn_spec (S := (· ∈ o.op.operands)) hhi hSh (K := fun h => xn MX A c fun m => yes (Nat.ble h m) (yes (Nat.ble m c) (K (.sl id off h m)))) h3
      obtain ⟨m, h6, h7⟩ := xn_spec (S := (· ∈ o.op.operands)) hmx hSm (K := fun m => yes (Nat.ble h m) (yes (Nat.ble m c) (K (.sl id off h m)))) h4
      rw [yes_iff, yes_iff] at h6
      have c1 : h ≤ m := by simpa using h6.1
      have c2 : m ≤ c := by simpa using h6.2.1
      refine ⟨_, h6.2.2, fun {E B mm hp N a w} hR hh hA => ?_⟩
      obtain ⟨pl, off', cap', hm, hg1, hl, hc, hof, hbb⟩ := (h2 mm a hA).sl_inv
      obtain ⟨m', hm', c3, c4⟩ : ∃ m', BV (mx.map a.eval) cap' m' ∧ m ≤ m' ∧ m' ≤ cap' := by
        rcases h7 with ⟨rfl, _, rfl⟩ | ⟨_, _, h7⟩
        · exact ⟨cap', .inl ⟨rfl, rfl⟩, hc, Nat.le_refl _⟩
        · exact ⟨m, .inr (h7 mm a hA), Nat.le_refl _, by omega⟩
      have := run_bounds (P := P) n cap' none (hi.map a.eval) (mx.map a.eval) 0 h m' (.inl ⟨rfl, rfl⟩) (bv_of h5 hA) hm' (fun e => by
        have q1 := isSome_of h5; have q2 := isSome_of h7
        simp only [Option.isSome_map] at e ⊢
        rw [← q1]; rw [← q2] at e
        cases MX <;> simp_all) (by omega) (by omega) (by omega) w
      refine ⟨_, .sl id off h m pl off' m' hm c1 c3 (hof.imp (fun e => e) fun e => by omega) (Nat.le_trans (Nat.add_le_add_left (Nat.mul_le_mul_right _ c4) _) hbb), ?_⟩
      simp only [execOp, ho, hg1, Option.map_none, Sem.run_bind, run_slice hu hz this, Result.andThen_ok, Sem.run_pure, Nat.zero_mul, Addr.add_mk, Nat.add_zero, Nat.sub_zero, ite_self]
theorem qs_slicer {lo : Operand} {LO : Ev.X} (ho : o.op = .slice t x (some lo) hi mx) (hx : cX x = some X) (hlo : cX lo = some LO) (hhi : cXo hi = some HI) (hmx : cXo mx = some MX) (hb : (MX.isNone || HI.isSome) = true)
    (hu : P.underlying t = some (.slice e)) (hz : Nat.blt 0 (P.cellsOf e) = true) : QS P o true (qSliceR (P.cellsOf e) X LO HI MX) where
  run := fun {A σ K} hh0 => by
    have hSh : ∀ y, hi = some y → y ∈ o.op.operands := fun y e => by subst e; simp [ho, Op.operands]
    have hSm : ∀ y, mx = some y → y ∈ o.op.operands := fun y e => by subst e; simp [ho, Op.operands]
    obtain ⟨v, h1, h2⟩ := xv_spec (S := (· ∈ o.op.operands)) hx (by simp [ho, Op.operands]) (K := fun v => xv LO A fun u => asN u fun _ l => asSl v
      (xn HI A 0 fun h => xn MX A 0 fun m => yes (Nat.beq (l + h + m) 0) (K .ns))
      fun id o n c => xn HI A n fun h => xn MX A c fun m => yes (Nat.ble l h) (yes (Nat.ble h m) (yes (Nat.ble m c)
        (T.getK id σ.heap fun ob => asCells ob fun sz' _ => yes (Nat.beq (P.cellsOf e) sz') (fNat (o + l * P.cellsOf e) fun o => fNat (h - l) fun n => fNat (m - l) fun c => K (.sl id o n c)))))) hh0
    obtain ⟨u, g1, g2⟩ := xv_spec (S := (· ∈ o.op.operands)) hlo (by simp [ho, Op.operands]) (K := fun u => asN u fun _ l => asSl v
      (xn HI A 0 fun h => xn MX A 0 fun m => yes (Nat.beq (l + h + m) 0) (K .ns))
      fun id o n c => xn HI A n fun h => xn MX A c fun m => yes (Nat.ble l h) (yes (Nat.ble h m) (yes (Nat.ble m c)
        (T.getK id σ.heap fun ob => asCells ob fun sz' _ => yes (Nat.beq (P.cellsOf e) sz') (fNat (o + l * P.cellsOf e) fun o => fNat (h - l) fun n => fNat (m - l) fun c => K (.sl id o n c)))))) h1
    obtain ⟨kl, l, rfl, g3⟩ := asN_spec g1
    have hlv : ∀ {m a}, AG (· ∈ o.op.operands) m A a → BV ((some lo).map a.eval) 0 l := fun {m a} hA => .inr ⟨kl, by simp [(g2 m a hA).i_inv]⟩
    rcases asSl_spec g3 with ⟨rfl, h3⟩ | ⟨id, off, n, c, rfl, h3⟩
    · obtain ⟨h, h4, h5⟩ := xn_spec (S := (· ∈ o.op.operands)) hhi hSh (K := fun h => xn MX A 0 fun m => yes (Nat.beq (l + h + m) 0) (K .ns)) h3
      obtain ⟨m, h6, h7⟩ := xn_spec (S := (· ∈ o.op.operands)) hmx hSm (K := fun m => yes (Nat.beq (l + h + m) 0) (K .ns)) h4
      rw [yes_iff] at h6
      have he := Nat.eq_of_beq_eq_true h6.1
      obtain rfl : h = 0 := by omega
      obtain rfl : m = 0 := by omega
      obtain rfl : l = 0 := by omega
      refine ⟨_, h6.2, fun {E B m h N a w} hR hh hA => ⟨_, .ns, ?_⟩⟩
      have e1 := h2 m a hA
      generalize hg1 : a.eval x = b1 at e1
      cases e1
      have := run_bounds (P := P) 0 0 ((some lo).map a.eval) (hi.map a.eval) (mx.map a.eval) 0 0 0 (hlv hA) (bv_of h5 hA) (bv_of h7 hA) (fun e => by
        have q1 := isSome_of h5; have q2 := isSome_of h7
        simp only [Option.isSome_map] at e ⊢
        rw [← q1]; rw [← q2] at e
        cases MX <;> simp_all) (by omega) (by omega) (by omega) w
      simp only [execOp, ho, hg1, Sem.run_bind, run_slice_nil hu hz this, Result.andThen_ok, Sem.run_pure]
    · obtain ⟨h, h4, h5⟩ := xn_spec (S := (· ∈ o.op.operands)) hhi hSh (K := fun h => xn MX A c fun m => yes (Nat.ble l h) (yes (Nat.ble h m) (yes (Nat.ble m c)
        (T.getK id σ.heap fun ob => asCells ob fun sz' _ => yes (Nat.beq (P.cellsOf e) sz') (fNat (off + l * P.cellsOf e) fun o => fNat (h - l) fun n => fNat (m - l) fun c => K (.sl id o n c)))))) h3
      obtain ⟨m, h6, h7⟩ := xn_spec (S := (· ∈ o.op.operands)) hmx hSm (K := fun m => yes (Nat.ble l h) (yes (Nat.ble h m) (yes (Nat.ble m c)
        (T.getK id σ.heap fun ob => asCells ob fun sz' _ => yes (Nat.beq (P.cellsOf e) sz') (fNat (off + l * P.cellsOf e) fun o => fNat (h - l) fun n => fNat (m - l) fun c => K (.sl id o n c)))))) h4
      rw [yes_iff, yes_iff, yes_iff] at h6
      obtain ⟨c0, c1, c2, h8⟩ := h6
      have c0 : l ≤ h := by simpa using c0
      have c1 : h ≤ m := by simpa using c1
      have c2 : m ≤ c := by simpa using c2
      obtain ⟨ob, h9, h10⟩ := T.getK_spec id (t := σ.heap) h8
      obtain ⟨sz, cs, rfl, h11⟩ := asCells_spec h10
      rw [yes_iff, fNat_eq, fNat_eq, fNat_eq] at h11
      have hsz := Nat.eq_of_beq_eq_true h11.1
      refine ⟨_, h11.2, fun {E B mm hp N a w} hR hh hA => ?_⟩
      obtain ⟨pl, off', cap', hm, hg1, hl, hc, hof, hbb⟩ := (h2 mm a hA).sl_inv
      obtain ⟨xo, hw, hx⟩ := hR.read (hh rfl id _ h9) hm
      have hesz : pl.esz = P.cellsOf e := by cases hx; omega
      obtain ⟨m', hm', c3, c4⟩ : ∃ m', BV (mx.map a.eval) cap' m' ∧ m ≤ m' ∧ m' ≤ cap' := by
        rcases h7 with ⟨rfl, _, rfl⟩ | ⟨_, _, h7⟩
        · exact ⟨cap', .inl ⟨rfl, rfl⟩, hc, Nat.le_refl _⟩
        · exact ⟨m, .inr (h7 mm a hA), Nat.le_refl _, by omega⟩
      have := run_bounds (P := P) n cap' ((some lo).map a.eval) (hi.map a.eval) (mx.map a.eval) l h m' (hlv hA) (bv_of h5 hA) hm' (fun e => by
        have q1 := isSome_of h5; have q2 := isSome_of h7
        simp only [Option.isSome_map] at e ⊢
        rw [← q1]; rw [← q2] at e
        cases MX <;> simp_all) (by omega) (by omega) (by omega) w
      by_cases hml : m' = l
      · subst hml
        refine ⟨_, .sl id _ (h - m') (m - m') pl off' 0 hm (by omega) (by omega) (.inr rfl) (by omega), ?_⟩
        simp only [execOp, ho, hg1, Sem.run_bind, run_slice hu hz this, Result.andThen_ok, Sem.run_pure, if_true, Nat.sub_self]
      · refine ⟨_, .sl id _ (h - l) (m - l) pl (off' + l * P.cellsOf e) (m' - l) hm (by omega) (by omega) (.inl (by rcases hof with e | e <;> omega)) ?_, ?_⟩
        · have : (m' - l) * pl.esz + l * pl.esz = m' * pl.esz := by rw [← Nat.add_mul]; congr 1; omega
          have : m' * pl.esz ≤ cap' * pl.esz := Nat.mul_le_mul_right _ c4
          rw [← hesz]; omega
        · simp only [execOp, ho, hg1, Sem.run_bind, run_slice hu hz this, Result.andThen_ok, Sem.run_pure, if_neg hml, Addr.add_mk]
end

/-! ### Maps, lengths -/
theorem findK_spec {a : Int} {k q : IntKind} : ∀ {es : List (V × V)} {K : V → Bool} {N : Bool}, findK a k es K N = true →
    (∃ v, K v = true ∧ ∀ (m : Mp) (es' : List MapEntry) (i : Nat), es.length = es'.length → (∀ (i : Nat) e e', es[i]? = some e → es'[i]? = some e' → VR m e.1 e'.key ∧ VR m e.2 e'.val) →
      ∃ j v', Instr.findNow (.int q) (.int k a) es' i = some (some (j, v')) ∧ VR m v v') ∨
    (N = true ∧ ∀ (m : Mp) (es' : List MapEntry) (i : Nat), es.length = es'.length → (∀ (i : Nat) e e', es[i]? = some e → es'[i]? = some e' → VR m e.1 e'.key ∧ VR m e.2 e'.val) →
      Instr.findNow (.int q) (.int k a) es' i = some none)
  | [], K, N, h => .inr ⟨h, fun m es' i hn _ => by
      cases es' with
      | nil => rfl
      | cons _ _ => simp at hn⟩
  | e :: es, K, N, h => by
    have h : asI e.1 (fun j b => yes (kBeq k j) (ife (iBeq a b) (K e.2) (findK a k es K N))) = true := h
    obtain ⟨j, b, he, h1⟩ := asI_spec h
    rw [yes_iff, ife_iff] at h1
    obtain ⟨hk, h1⟩ := h1
    obtain rfl := kBeq_eq hk
    rcases h1 with ⟨hb, h1⟩ | ⟨hb, h1⟩
    · refine .inl ⟨_, h1, fun m es' i hn hv => ?_⟩
      cases es' with
      | nil => simp at hn
      | cons e' es' =>
        obtain ⟨v1, v2⟩ := hv 0 e e' rfl rfl
        rw [he] at v1
        obtain rfl := iBeq_iff.1 hb
        refine ⟨i, e'.val, ?_, v2⟩
        simp [Instr.findNow, Instr.sameNow, v1.i_inv]
    · have hne : ¬ a = b := fun e => by rw [iBeq_iff.2 e] at hb; cases hb
      have rest : ∀ (m : Mp) (e' : MapEntry) (es' : List MapEntry) (i : Nat), VR m e.1 e'.key → Instr.findNow (.int q) (.int k a) (e' :: es') i = Instr.findNow (.int q) (.int k a) es' (i + 1) := fun m e' es' i v1 => by
        rw [he] at v1
        have hf : (a == b) = false := by simpa using hne
        simp only [Instr.findNow, Instr.sameNow, v1.i_inv, if_true, hf]
      rcases findK_spec (q := q) h1 with ⟨v, h2, h3⟩ | ⟨h2, h3⟩
      · refine .inl ⟨v, h2, fun m es' i hn hv => ?_⟩
        cases es' with
        | nil => simp at hn
        | cons e' es' =>
          rw [rest m e' es' i (hv 0 e e' rfl rfl).1]
          exact h3 m es' (i + 1) (by simpa using hn) fun i a b ha hb => hv (i + 1) a b (by simpa using ha) (by simpa using hb)
      · refine .inr ⟨h2, fun m es' i hn hv => ?_⟩
        cases es' with
        | nil => simp at hn
        | cons e' es' =>
          rw [rest m e' es' i (hv 0 e e' rfl rfl).1]
          exact h3 m es' (i + 1) (by simpa using hn) fun i a b ha hb => hv (i + 1) a b (by simpa using ha) (by simpa using hb)
theorem zero1_spec {t : TypeId} {z : V} (h : zero1 P t = some z) : ∃ v, (∀ m, VR m z v) ∧ ∀ w, (zeroValue t).run P w = .ok v w := by
  unfold zero1 at h
  split at h
  · rename_i i hi
    split at h
    · rename_i v hv; exact ⟨v, cV_spec h, fun w => by simp [zeroValue, typeInfo, hi, hv]⟩
    · cases h
  · cases h
theorem isInt_spec {t : TypeId} (h : isInt P t = true) : ∃ k, P.underlying t = some (.int k) := by
  unfold isInt at h
  split at h
  · rename_i k hk; exact ⟨k, hk⟩
  · cases h
theorem run_checkKey {kt : TypeId} {q k : IntKind} {a : Int} (b : Bool) (hk : P.underlying kt = some (.int q)) (w : World) : (Instr.checkKey b 10000 kt (.int k a)).run P w = .ok () w := by
  have : ∀ d, (Instr.checkKey b (d + 1) kt (.int k a)).run P w = .ok () w := fun d => by simp [Instr.checkKey, run_underlying hk]
  exact this 9999
theorem qs_look {t kt et : TypeId} {x y : Operand} {X Y : Ev.X} {z : V} (ho : o.op = .lookup t x y false) (hx : cX x = some X) (hy : cX y = some Y) (hu : P.underlying t = some (.map kt et)) (hk : isInt P kt = true) (hz : zero1 P et = some z) :
    QS P o true (qLook z X Y) where
  run := fun {A σ K} h0 => by
    obtain ⟨q, hq⟩ := isInt_spec hk
    obtain ⟨zv, hzr, hzv⟩ := zero1_spec hz
    obtain ⟨v, h1, h2⟩ := xv_spec (S := (· ∈ o.op.operands)) hx (by simp [ho, Op.operands]) (K := fun v => asMp v fun id => xv Y A fun u => asI u fun j a => T.getK id σ.heap fun ob => asMap ob fun es => findK a j es K (K z)) h0
    obtain ⟨id, rfl, h3⟩ := asMp_spec h1
    obtain ⟨u, h4, h5⟩ := xv_spec (S := (· ∈ o.op.operands)) hy (by simp [ho, Op.operands]) (K := fun u => asI u fun j a => T.getK id σ.heap fun ob => asMap ob fun es => findK a j es K (K z)) h3
    obtain ⟨k, c, rfl, h6⟩ := asI_spec h4
    obtain ⟨ob, h7, h8⟩ := T.getK_spec id (t := σ.heap) h6
    obtain ⟨es, rfl, h9⟩ := asMap_spec h8
    have common : ∀ {E B m h N a w}, R E B m h N w → (true = true → ∀ id ob, σ.heap.get id = some ob → h id = some ob) → AG (· ∈ o.op.operands) m A a →
        ∃ (r : Nat) (es' : Array MapEntry) (clk : Nat), a.eval x = .map (some r) ∧ a.eval y = .int k c ∧ w.heap[r]? = some (.map es' clk) ∧ es.length = es'.size ∧ ∀ (i : Nat) e e', es[i]? = some e → es'.toList[i]? = some e' → VR m e.1 e'.key ∧ VR m e.2 e'.val :=
      fun {E B m h N a w} hR hh hA => by
        obtain ⟨pl, hm, hg1⟩ := (h2 m a hA).mp_inv
        obtain ⟨xo, hw, hx⟩ := hR.read (hh rfl id _ h7) hm
        cases hx with
        | map _ _ es' clk hn hv => exact ⟨pl.blk, es', clk, hg1, (h5 m a hA).i_inv, hw, hn, fun i e e' a b => hv i e e' a (by simpa using b)⟩
    rcases findK_spec (q := q) h9 with ⟨v, h10, h11⟩ | ⟨h10, h11⟩
    · refine ⟨v, h10, fun {E B m h N a w} hR hh hA => ?_⟩
      obtain ⟨r, es', clk, g1, g2, g3, g4, g5⟩ := common hR hh hA
      obtain ⟨j, v', h12, h13⟩ := h11 m es'.toList 0 (by simpa using g4) g5
      refine ⟨v', h13, ?_⟩
      simp [execOp, ho, g1, g2, Instr.lookup, run_underlying hu, getObj, Sem.run, g3, run_checkKey _ hq, Instr.findKey, run_underlying hq, h12]
    · refine ⟨z, h10, fun {E B m h N a w} hR hh hA => ?_⟩
      obtain ⟨r, es', clk, g1, g2, g3, g4, g5⟩ := common hR hh hA
      have h12 := h11 m es'.toList 0 (by simpa using g4) g5
      refine ⟨zv, hzr m, ?_⟩
      simp [execOp, ho, g1, g2, Instr.lookup, run_underlying hu, getObj, Sem.run, g3, run_checkKey _ hq, Instr.findKey, run_underlying hq, h12, hzv]
/-- A call of a builtin. -/
theorem exec_builtin {c : Call} {b : Builtin} (ho : o.op = .call c) (hc : c.callee = .builtin b) (a : Act) {r : Result Next}
    (h : (builtin b c.argTypes o.type (c.args.map fun | .const _ => true | _ => false) (c.args.map a.eval)).run P w = r) : (execOp a.eval o).run P w = r := by
  simp only [execOp, ho, resolve, hc, Sem.run_bind, Sem.run_pure, Result.andThen_ok, invoke]
  exact h
theorem cXs_one : ∀ {xs : List Operand} {X : Ev.X}, cXs xs = some [X] → ∃ x, xs = [x] ∧ cX x = some X
  | [], X, h => by simp [cXs] at h
  | x :: xs, X, h => by
    simp only [cXs] at h
    split at h
    · rename_i Y hY
      split at h
      · rename_i Ys hYs
        cases h
        cases xs with
        | nil => exact ⟨x, rfl, hY⟩
        | cons y ys =>
          simp only [cXs] at hYs
          split at hYs
          · split at hYs <;> cases hYs
          · cases hYs
      · cases h
    · cases h
theorem cXs_cons : ∀ {xs : List Operand} {X : Ev.X} {Xs : List Ev.X}, cXs xs = some (X :: Xs) → ∃ x r, xs = x :: r ∧ cX x = some X ∧ cXs r = some Xs
  | [], X, Xs, h => by simp [cXs] at h
  | x :: xs, X, Xs, h => by
    simp only [cXs] at h
    split at h
    · rename_i Y hY
      split at h
      · rename_i Ys hYs; cases h; exact ⟨x, xs, rfl, hY, hYs⟩
      · cases h
    · cases h
section
variable {c : Call} {X Y : Ev.X} {t : TypeId}
theorem qs_lens {e : TypeId} (ho : o.op = .call c) (hc : c.callee = .builtin .len) (hx : cXs c.args.toList = some [X]) (ht : c.argTypes.toList = [t]) (hu : P.underlying t = some (.slice e)) : QS P o false (qLenS X) where
  run := fun {A σ K} h0 => by
    obtain ⟨x, hxs, hx⟩ := cXs_one hx
    have hargs : c.args = #[x] := by apply Array.ext'; simpa using hxs
    have hts : c.argTypes = #[t] := by apply Array.ext'; simpa using ht
    obtain ⟨v, h1, h2⟩ := xv_spec (S := (· ∈ o.op.operands)) hx (by simp [ho, Op.operands, Call.operands, hargs, hc]) (K := fun v => asSl v (K (.i .i64 (.ofNat 0))) fun _ _ n _ => K (.i .i64 (.ofNat n))) h0
    rcases asSl_spec h1 with ⟨rfl, h3⟩ | ⟨id, off, n, cp, rfl, h3⟩
    · refine ⟨_, h3, fun {E B m h N a w} hR hh hA => ⟨_, .i _ _, exec_builtin ho hc a ?_⟩⟩
      have e1 := h2 m a hA
      generalize hg1 : a.eval x = b1 at e1
      cases e1
      simp [hargs, hts, hg1, builtin, Builtin.len_, run_underlying hu, goInt]
    · refine ⟨_, h3, fun {E B m h N a w} hR hh hA => ⟨_, .i _ _, exec_builtin ho hc a ?_⟩⟩
      obtain ⟨pl, off', cap', hm, hg1, _⟩ := (h2 m a hA).sl_inv
      simp [hargs, hts, hg1, builtin, Builtin.len_, run_underlying hu, goInt]
theorem qs_lenm {k e : TypeId} (ho : o.op = .call c) (hc : c.callee = .builtin .len) (hx : cXs c.args.toList = some [X]) (ht : c.argTypes.toList = [t]) (hu : P.underlying t = some (.map k e)) : QS P o true (qLenM X) where
  run := fun {A σ K} h0 => by
    obtain ⟨x, hxs, hx⟩ := cXs_one hx
    have hargs : c.args = #[x] := by apply Array.ext'; simpa using hxs
    have hts : c.argTypes = #[t] := by apply Array.ext'; simpa using ht
    obtain ⟨v, h1, h2⟩ := xv_spec (S := (· ∈ o.op.operands)) hx (by simp [ho, Op.operands, Call.operands, hargs, hc]) (K := fun v => asMp v fun id => T.getK id σ.heap fun ob => asMap ob fun es => fNat (lenK es) fun n => K (.i .i64 (.ofNat n))) h0
    obtain ⟨id, rfl, h3⟩ := asMp_spec h1
    obtain ⟨ob, h4, h5⟩ := T.getK_spec id (t := σ.heap) h3
    obtain ⟨es, rfl, h6⟩ := asMap_spec h5
    rw [fNat_eq, lenK_eq] at h6
    refine ⟨_, h6, fun {E B m h N a w} hR hh hA => ⟨_, .i _ _, exec_builtin ho hc a ?_⟩⟩
    obtain ⟨pl, hm, hg1⟩ := (h2 m a hA).mp_inv
    obtain ⟨xo, hw, hx⟩ := hR.read (hh rfl id _ h4) hm
    cases hx with
    | map _ _ es' clk hn hv =>
      simp [hargs, hts, hg1, builtin, Builtin.len_, run_underlying hu, getObj, Sem.run, hw, goInt, hn]
theorem qs_minmax {g : G} {b : Builtin} {f : Value → Value → Sem Value} (hf : ∀ (P : Program) (w : World) (ts : Array TypeId) (ty : TypeId) (cst : Array Bool) (u v r : Value), (f u v).run P w = .ok r w → (builtin b ts ty cst #[u, v]).run P w = .ok (.value r) w)
    (hg : GS g f) (ho : o.op = .call c) (hc : c.callee = .builtin b) (hx : cXs c.args.toList = some [X, Y]) : QS P o false (qInt g X Y) where
  run := fun {A σ K} h0 => by
    obtain ⟨x, r, hxs, hx, hr⟩ := cXs_cons hx
    obtain ⟨y, rfl, hy⟩ := cXs_one hr
    have hargs : c.args = #[x, y] := by apply Array.ext'; simpa using hxs
    obtain ⟨v, h1, h2⟩ := xv_spec (S := (· ∈ o.op.operands)) hx (by simp [ho, Op.operands, Call.operands, hargs, hc]) (K := fun v => asN v fun k a => xv Y A fun u => asN u fun j b => yes (kBeq k j) (g k a b K)) h0
    obtain ⟨k, a, rfl, h3⟩ := asN_spec h1
    obtain ⟨u, h4, h5⟩ := xv_spec (S := (· ∈ o.op.operands)) hy (by simp [ho, Op.operands, Call.operands, hargs, hc]) (K := fun u => asN u fun j b => yes (kBeq k j) (g k a b K)) h3
    obtain ⟨j, b', rfl, h6⟩ := asN_spec h4
    have h6 : yes (kBeq k j) (g k a b' K) = true := h6
    rw [yes_iff] at h6
    obtain rfl := kBeq_eq h6.1
    obtain ⟨r, h7, h8⟩ := hg h6.2
    refine ⟨_, h7, fun {E B m h N a w} hR hh hA => ⟨_, .i _ _, exec_builtin ho hc a ?_⟩⟩
    have hg1 := (h2 m a hA).i_inv
    have hg2 := (h5 m a hA).i_inv
    have h8 := h8 P w
    have hm : (#[x, y] : Array Operand).map a.eval = #[a.eval x, a.eval y] := by simp
    simp only [Int.ofNat_eq_natCast] at hg1 hg2
    rw [hargs, hm, hg1, hg2]
    exact hf P w _ _ _ _ _ _ h8
theorem run_min {u v r : Value} {ts : Array TypeId} {ty : TypeId} {cst : Array Bool} (h : (Builtin.min2 u v).run P w = .ok r w) : (builtin .min ts ty cst #[u, v]).run P w = .ok (.value r) w := by simp [builtin, Builtin.min_, h]
theorem run_max {u v r : Value} {ts : Array TypeId} {ty : TypeId} {cst : Array Bool} (h : (Builtin.max2 u v).run P w = .ok r w) : (builtin .max ts ty cst #[u, v]).run P w = .ok (.value r) w := by simp [builtin, Builtin.max_, h]
theorem gs_min : GS gMin Builtin.min2 := fun {k a b K} h => by
  refine ⟨_, h, fun P w => ?_⟩
  cases hb : Nat.blt b a with
  | true => have : (b : Int) < a := by simp at hb; omega
            simp [Builtin.min2, this]
  | false => have : ¬ (b : Int) < a := by have h2 := Nat.blt_eq (x := b) (y := a); rw [hb] at h2; simp at h2; omega
             simp [Builtin.min2, this]
theorem gs_max : GS gMax Builtin.max2 := fun {k a b K} h => by
  refine ⟨_, h, fun P w => ?_⟩
  cases hb : Nat.blt a b with
  | true => have : (b : Int) > a := by simp at hb; omega
            simp [Builtin.max2, this]
  | false => have : ¬ (b : Int) > a := by have h2 := Nat.blt_eq (x := a) (y := b); rw [hb] at h2; simp at h2; omega
             simp [Builtin.max2, this]
end
end
end Go.Ev
