/- Maps and calls of the evaluator: each says what the real one does. -/
import Derived.Test.YtnphfcaokjdigaaGreatDoorVC
set_option linter.unusedVariables false
set_option linter.unusedSimpArgs false
namespace Go.Ev
open Go
section
variable {E : Env} {B : Nat} {m : Mp} {h : Pa → Option AO} {N : Nat} {w w' w'' : World} {P : Program} {o : Oper}

/-! ### Entries -/
structure MR (m : Mp) (es : List (V × V)) (es' : List MapEntry) : Prop where
  len : es.length = es'.length
  at_ : ∀ (i : Nat) (e : V × V) (e' : MapEntry), es[i]? = some e → es'[i]? = some e' → VR m e.1 e'.key ∧ VR m e.2 e'.val
theorem MR.tail {e : V × V} {es : List (V × V)} {e' : MapEntry} {es' : List MapEntry} (h : MR m (e :: es) (e' :: es')) : MR m es es' :=
  ⟨by simpa using h.len, fun i a b ha hb => h.at_ (i + 1) a b (by simpa using ha) (by simpa using hb)⟩
theorem setKey_spec {a : Int} {k q : IntKind} {v : V} : ∀ {es : List (V × V)} {K : List (V × V) → Bool}, setKey a k v es K = true → ∃ es2, K es2 = true ∧
    ((∃ j, j < es.length ∧ es2 = es.set j (.i k a, v) ∧ (∃ u, es[j]? = some (.i k a, u)) ∧ ∀ m es' i, MR m es es' → ∃ v0, Instr.findNow (.int q) (.int k a) es' i = some (some (i + j, v0))) ∨
     (es2 = es ++ [(.i k a, v)] ∧ ∀ m es' i, MR m es es' → Instr.findNow (.int q) (.int k a) es' i = some none))
  | [], K, h => ⟨_, h, .inr ⟨rfl, fun m es' i hr => by
      cases es' with
      | nil => rfl
      | cons _ _ => exact absurd hr.len (by simp)⟩⟩
  | e :: es, K, h => by
    have h : asI e.1 (fun j b => yes (kBeq k j) (ife (iBeq a b) (K ((.i k a, v) :: es)) (setKey a k v es fun r => K (e :: r)))) = true := h
    obtain ⟨j, b, he, h1⟩ := asI_spec h
    rw [yes_iff, ife_iff] at h1
    obtain ⟨hk, h1⟩ := h1
    obtain rfl := kBeq_eq hk
    rcases h1 with ⟨hb, h1⟩ | ⟨hb, h1⟩
    · obtain rfl := iBeq_iff.1 hb
      refine ⟨_, h1, .inl ⟨0, by simp, rfl, ⟨e.2, by simp [← he]⟩, fun m es' i hr => ?_⟩⟩
      cases es' with
      | nil => exact absurd hr.len (by simp)
      | cons e' es' =>
        have v1 := (hr.at_ 0 e e' rfl rfl).1
        rw [he] at v1
        exact ⟨e'.val, by simp [Instr.findNow, Instr.sameNow, v1.i_inv]⟩
    · have hne : ¬ a = b := fun e => by rw [iBeq_iff.2 e] at hb; cases hb
      have rest : ∀ (m : Mp) (e' : MapEntry) (es' : List MapEntry) (i : Nat), MR m (e :: es) (e' :: es') → Instr.findNow (.int q) (.int k a) (e' :: es') i = Instr.findNow (.int q) (.int k a) es' (i + 1) := fun m e' es' i hr => by
        have v1 := (hr.at_ 0 e e' rfl rfl).1
        rw [he] at v1
        have hf : (a == b) = false := by simpa using hne
        simp only [Instr.findNow, Instr.sameNow, v1.i_inv, if_true, hf]
      obtain ⟨es2, h2, h3⟩ := setKey_spec (q := q) h1
      refine ⟨_, h2, ?_⟩
      rcases h3 with ⟨j, h4, rfl, ⟨u, h5⟩, h6⟩ | ⟨rfl, h6⟩
      · refine .inl ⟨j + 1, by simp; omega, rfl, ⟨u, by simpa using h5⟩, fun m es' i hr => ?_⟩
        cases es' with
        | nil => exact absurd hr.len (by simp)
        | cons e' es' =>
          rw [rest m e' es' i hr]
          obtain ⟨v0, h7⟩ := h6 m es' (i + 1) hr.tail
          exact ⟨v0, by rw [h7]; congr 3; omega⟩
      · refine .inr ⟨rfl, fun m es' i hr => ?_⟩
        cases es' with
        | nil => exact absurd hr.len (by simp)
        | cons e' es' =>
          rw [rest m e' es' i hr]
          exact h6 m es' (i + 1) hr.tail
theorem At.setObj {b : Nat} {x y : Obj} (h : w.heap[b]? = some x) : At w b y { w with heap := w.heap.setIfInBounds b y } :=
  ⟨rfl, rfl, rfl, by simp, by
    have hlt : b < w.heap.size := by
      rcases Nat.lt_or_ge b w.heap.size with c | c
      · exact c
      · rw [Array.getElem?_eq_none c] at h; cases h
    simp [hlt], fun k hk => by simp [Array.getElem?_setIfInBounds_ne (Ne.symm hk)]⟩
theorem same_key (k : IntKind) (a : Int) : ∀ n, Instr.sameBits n (.int k a) (.int k a) = true := fun n => by cases n <;> simp [Instr.sameBits]
theorem run_keyStays (k : IntKind) (a : Int) : (Instr.keyThatStays (.int k a) (.int k a)).run P w = .ok (.int k a) w := by
  unfold Instr.keyThatStays
  rw [same_key]
  simp
theorem ms_put {t kt et : TypeId} {x y z : Operand} {X Y Z : Ev.X} (ho : o.op = .mapUpdate t x y z ∨ o.op = .insert t x y z) (hx : cX x = some X) (hy : cX y = some Y) (hz : cX z = some Z) (hu : P.underlying t = some (.map kt et))
    (hk : isInt P kt = true) : MS P o (mPut X Y Z) where
  run := fun {call} _ {A σ K} h0 => by
    have hS : x ∈ o.op.operands ∧ y ∈ o.op.operands ∧ z ∈ o.op.operands := by rcases ho with h | h <;> simp [h, Op.operands]
    obtain ⟨q, hq⟩ := isInt_spec hk
    obtain ⟨v, h1, h2⟩ := xv_spec (S := (· ∈ o.op.operands)) hx hS.1
      (K := fun a => asMp a fun id => xv Y A fun u => asI u fun j n => xv Z A fun v => T.getK id σ.heap fun ob => asMap ob fun es => setKey n j v es fun es => σ.put id (some (.map es)) fun σ => K (.tu []) σ) h0
    obtain ⟨id, rfl, h3⟩ := asMp_spec h1
    obtain ⟨u, h4, h5⟩ := xv_spec (S := (· ∈ o.op.operands)) hy hS.2.1
      (K := fun u => asI u fun j n => xv Z A fun v => T.getK id σ.heap fun ob => asMap ob fun es => setKey n j v es fun es => σ.put id (some (.map es)) fun σ => K (.tu []) σ) h3
    obtain ⟨k, c, rfl, h6⟩ := asI_spec h4
    obtain ⟨v, h7, h8⟩ := xv_spec (S := (· ∈ o.op.operands)) hz hS.2.2
      (K := fun v => T.getK id σ.heap fun ob => asMap ob fun es => setKey c k v es fun es => σ.put id (some (.map es)) fun σ => K (.tu []) σ) h6
    obtain ⟨ob, h9, h10⟩ := T.getK_spec id (t := σ.heap) h7
    obtain ⟨es, rfl, h11⟩ := asMap_spec h10
    obtain ⟨es2, h12, h13⟩ := setKey_spec (q := q) h11
    obtain ⟨σ', h14, h15, h16, _⟩ := put_spec h12
    refine ⟨_, σ', h14, by omega, fun {E B m a w} hB hR hA => ?_⟩
    obtain ⟨pl, hm, hg1⟩ := (h2 m a hA).mp_inv
    have hg2 := (h5 m a hA).i_inv
    have hv := h8 m a hA
    obtain ⟨xo, hw, hx⟩ := hR.read h9 hm
    have fin : ∀ (es2' : Array MapEntry) (clk' : Nat), es2.length = es2'.size → (∀ (i : Nat) (e : V × V) (e' : MapEntry), es2[i]? = some e → es2'[i]? = some e' → VR m e.1 e'.key ∧ VR m e.2 e'.val) →
        (Instr.mapUpdate t (a.eval x) (a.eval y) (a.eval z)).run P w = .ok () { w with heap := w.heap.setIfInBounds pl.blk (.map es2' clk') } →
        Does P o a w fun v' w' => ∃ m', Ext B m m' ∧ VR m' (.tu []) v' ∧ R E B m' σ'.heap.get σ'.N w' := fun es2' clk' hn hv hr => by
      refine Does.skip (w' := { w with heap := w.heap.setIfInBounds pl.blk (.map es2' clk') }) ?_ ⟨m, Ext.refl, .tu [] [] rfl (by simp), ?_⟩
      · rcases ho with h | h <;> simp only [execOp, h, Sem.run_bind, hr, Result.andThen_ok, Sem.run_pure]
      · rw [h16, h15]
        exact hR.write h9 hm (At.setObj hw) (.map es2 pl es2' clk' hn hv)
    cases hx with
    | map _ _ es' clk hn hmv =>
      have hMR : MR m es es'.toList := ⟨by simpa using hn, fun i e e' a b => hmv i e e' a (by simpa using b)⟩
      rcases h13 with ⟨j, hj, rfl, ⟨u, hu1⟩, h17⟩ | ⟨rfl, h17⟩
      · obtain ⟨v0, h18⟩ := h17 m es'.toList 0 hMR
        have hj' : j < es'.size := by omega
        have hkey : es'[j].key = .int k c := ((hmv j _ _ hu1 (Array.getElem?_eq_getElem hj')).1).i_inv
        refine fin (es'.modify j fun e => { e with key := .int k c, val := a.eval z }) clk (by simp [hn]) (fun i e e' a b => ?_) ?_
        · rw [List.getElem?_set] at a
          rw [Array.getElem?_modify] at b
          by_cases hji : j = i
          · subst hji
            rw [if_pos rfl, if_pos hj] at a
            rw [if_pos rfl, Array.getElem?_eq_getElem hj'] at b
            simp at a b
            subst a; subst b
            exact ⟨.i k c, hv⟩
          · rw [if_neg hji] at a b
            exact hmv i e e' a b
        · have h18' : Instr.findNow (.int q) (.int k c) es'.toList 0 = some (some (j, v0)) := by simpa using h18
          simp [Instr.mapUpdate, run_underlying hu, hg1, hg2, getObj, Sem.run, hw, run_checkKey _ hq, Instr.findKey, run_underlying hq, h18', Array.getElem?_eq_getElem hj', hkey, run_keyStays, setObj]
      · have h18 := h17 m es'.toList 0 hMR
        refine fin (es'.push { key := .int k c, val := a.eval z, born := clk }) (clk + 1) (by simp [hn]) (fun i e e' a b => ?_) ?_
        · rw [Array.getElem?_push] at b
          by_cases hi : i = es'.size
          · rw [if_pos hi] at b
            rw [List.getElem?_append_right (by omega), hn, hi] at a
            simp at a b
            subst a; subst b
            exact ⟨.i k c, hv⟩
          · rw [if_neg hi] at b
            have hlt : i < es'.size := by
              rcases Nat.lt_or_ge i es'.size with c | c
              · exact c
              · rw [Array.getElem?_eq_none c] at b; cases b
            rw [List.getElem?_append_left (by omega)] at a
            exact hmv i e e' a b
        · simp [Instr.mapUpdate, run_underlying hu, hg1, hg2, getObj, Sem.run, hw, run_checkKey _ hq, Instr.findKey, run_underlying hq, h18, setObj]

/-! ### A slice of bytes that a string may share -/
theorem ms_frz {s d e e' : TypeId} {x : Operand} {X : Ev.X} (ho : o.op = .convert s d x) (hx : cX x = some X) (hs : P.underlying s = some (.slice e')) (hd : P.underlying d = some (.slice e)) (he : P.underlying e = some (.int .u8)) (hsd : Nat.beq s d = true) :
    MS P o (mFrz X) where
  run := fun {call} _ {A σ K} h0 => by
    obtain ⟨v, h1, h2⟩ := xv_spec (S := (· ∈ o.op.operands)) hx (by simp [ho, Op.operands]) (K := fun v => asSl v false fun id o n c => T.getK id σ.heap fun ob => asCells ob fun _ _ => K (.sl id o n c) σ) h0
    rcases asSl_spec h1 with ⟨_, h⟩ | ⟨id, off, n, c, rfl, h3⟩
    · cases h
    obtain ⟨ob, h4, h5⟩ := T.getK_spec id (t := σ.heap) h3
    obtain ⟨sz, cs, rfl, h6⟩ := asCells_spec h5
    refine ⟨_, σ, h6, Nat.le_refl _, fun {E B m a w} hB hR hA => ?_⟩
    have hv := h2 m a hA
    obtain ⟨pl, off', cap', hm, hg1, hl, hc, hof, hb⟩ := hv.sl_inv
    obtain ⟨xo, hw, hx⟩ := hR.read h4 hm
    obtain rfl := Nat.eq_of_beq_eq_true hsd
    obtain rfl : e' = e := by rw [hs] at hd; cases hd; rfl
    have hss : (s == s) = true := by simp
    cases hx with
    | cells _ _ _ c' elem fz hs' hn hb' h hlf hf =>
      have hlt : pl.blk < w.heap.size := (Array.getElem?_eq_some_iff.1 hw).1
      have hw' : w.heap[pl.blk] = .cells c' elem fz := (Array.getElem?_eq_some_iff.1 hw).2
      obtain ⟨fz', hfz, hf'⟩ : ∃ fz', (if fz.1 == fz.2 then (c'.size, c'.size + 1) else (min fz.1 c'.size, max fz.2 (c'.size + 1))) = fz' ∧ (fz'.1 = fz'.2 ∨ c'.size ≤ fz'.1) := by
        refine ⟨_, rfl, .inr ?_⟩
        split
        · exact Nat.le_refl _
        · rename_i hne
          have : c'.size ≤ fz.1 := hf.resolve_left (by simpa using hne)
          simp; omega
      have hat : At w pl.blk (.cells c' elem fz') (w.freeze ⟨pl.blk, c'.size, none⟩ 1) := by
        refine ⟨rfl, rfl, rfl, by simp [World.freeze], ?_, fun k hk => by simp [World.freeze, Array.getElem?_modify, Ne.symm hk]⟩
        have : (w.freeze ⟨pl.blk, c'.size, none⟩ 1).heap[pl.blk]? = some ((w.freeze ⟨pl.blk, c'.size, none⟩ 1).heap[pl.blk]'(by simpa [World.freeze] using hlt)) := Array.getElem?_eq_getElem _
        rw [this]
        simp only [World.freeze, Nat.one_ne_zero, if_false, Array.getElem_modify, if_true, hw', ← hfz]
      refine Does.value (w' := w.freeze ⟨pl.blk, c'.size, none⟩ 1) ?_ ⟨m, Ext.refl, hv, ?_⟩
      · have hsh : w.shape? pl.blk = some (elem, c'.size) := by simp [World.shape?, hw]
        simp [execOp, ho, hg1, convert, run_underlying hs, run_underlying hd, run_underlying he, markStringish, hsh]
      · have : upd σ.heap.get id (some (.cells sz cs)) = σ.heap.get := by funext q; unfold upd; split
                                                                          · rename_i e; rw [e, h4]
                                                                          · rfl
        rw [← this]
        exact hR.write h4 hm hat (.cells sz cs pl c' elem fz' hs' hn hb' h hlf hf')

/-! ### clear -/
theorem ms_clr {c : Call} {t e : TypeId} {X : Ev.X} {z : List V} (ho : o.op = .call c) (hc : c.callee = .builtin .clear) (hx : cXs c.args.toList = some [X]) (ht : c.argTypes.toList = [t]) (hu : P.underlying t = some (.slice e)) (hz : zeroL P e = some z) :
    MS P o (mClr z X) where
  run := fun {call} _ {A σ K} h0 => by
    obtain ⟨x, hxs, hx⟩ := cXs_one hx
    have hargs : c.args = #[x] := by apply Array.ext'; simpa using hxs
    have hts : c.argTypes = #[t] := by apply Array.ext'; simpa using ht
    obtain ⟨it, zv, z1, z2, z3, z4, z5⟩ := zeroL_spec hz
    obtain ⟨v, h1, h2⟩ := xv_spec (S := (· ∈ o.op.operands)) hx (by simp [ho, Op.operands, Call.operands, hargs, hc])
      (K := fun v => asSl v (K (.tu []) σ) fun id o n _ => ife (Nat.beq n 0) (K (.tu []) σ) (repK z n fun l => stN σ id o l fun σ => K (.tu []) σ)) h0
    rcases asSl_spec h1 with ⟨rfl, h3⟩ | ⟨id, off, n, cp, rfl, h3⟩
    · refine ⟨_, σ, h3, Nat.le_refl _, fun {E B m a w} hB hR hA => ?_⟩
      have e1 := h2 m a hA
      generalize hg1 : a.eval x = b1 at e1
      cases e1
      refine Does.value (w' := w) (v := .tuple #[]) (exec_builtin ho hc a ?_) ⟨m, Ext.refl, .tu [] [] rfl (by simp), hR⟩
      simp [hargs, hts, hg1, builtin, Builtin.clear_, run_underlying hu]
    · rw [ife_iff] at h3
      rcases h3 with ⟨hn, h3⟩ | ⟨hn, h3⟩
      · obtain rfl := Nat.eq_of_beq_eq_true hn
        refine ⟨_, σ, h3, Nat.le_refl _, fun {E B m a w} hB hR hA => ?_⟩
        obtain ⟨pl, off', cap', hm, hg1, _⟩ := (h2 m a hA).sl_inv
        refine Does.value (w' := w) (v := .tuple #[]) (exec_builtin ho hc a ?_) ⟨m, Ext.refl, .tu [] [] rfl (by simp), hR⟩
        simp [hargs, hts, hg1, builtin, Builtin.clear_, run_underlying hu]
      · have hn : n ≠ 0 := fun e => by subst e; simp at hn
        rw [repK_eq] at h3
        obtain ⟨σ', sz, cs, h4, h5, h6, h7, h8⟩ := stN_spec h3
        refine ⟨_, σ', h4, by omega, fun {E B m a w} hB hR hA => ?_⟩
        obtain ⟨pl, off', cap', hm, hg1, hl, hcc, hof, hb⟩ := (h2 m a hA).sl_inv
        obtain rfl : off' = pl.base + off := hof.resolve_right (by omega)
        obtain ⟨h9, h10⟩ := hR.store (P := P) h6 hm ((z5 m).rep n) (rep_leafs z4 n) h7
        refine Does.value (v := .tuple #[]) (exec_builtin ho hc a ?_) ⟨m, Ext.refl, .tu [] [] rfl (by simp), by rw [h8, h5]; exact h9⟩
        obtain ⟨n, rfl⟩ : ∃ k, n = k + 1 := ⟨n - 1, by omega⟩
        simp only [hargs, hts, List.map_toArray, List.map_cons, List.map_nil, hg1, builtin, Builtin.clear_]
        simp [run_underlying hu, zeroValue, typeInfo, z1, z2]
        have hzc : Builtin.zeroCells zv.cells (n + 1) = (Array.range ((n + 1) * zv.cells.size)).map (zv.cells[· % zv.cells.size]!) := rfl
        rw [hzc, h10]
        simp
end
end Go.Ev
namespace Go.Ev
open Go
/-- No function is the runtime's own count of goroutines. -/
def NoNum (P : Program) : Prop := ∀ (f : Nat) (fn : Func), P.funcs[f]? = some fn → (fn.name == "runtime.NumGoroutine") = false
section
variable {E : Env} {B : Nat} {m : Mp} {h : Pa → Option AO} {N : Nat} {w w' w'' : World} {P : Program} {o : Oper}

/-! ### Calls -/
theorem run_callFunc (hN : NoNum P) {f : FuncId} (hf : ∃ fn, P.funcs[f]? = some fn ∧ fn.body.isSome = true) (args : Array Value) : (callFunc f args).run P w = .ok (.enter f args) w := by
  obtain ⟨fn, h1, h2⟩ := hf
  have h3 : fn.body.isNone = false := by cases hb : fn.body <;> simp_all
  unfold callFunc
  simp only [Sem.run_bind, run_program, Result.andThen_ok, h1, hN f fn h1, h3, Bool.false_eq_true, if_false, Sem.run_pure]
theorem ms_call (hN : NoNum P) {c : Call} {f : FuncId} {Xs : List X} (ho : o.op = .call c) (hc : c.callee = .value (.func f)) (hx : cXs c.args.toList = some Xs) : MS P o (mCall f Xs) where
  run := fun {call} hcall {A σ K} h0 => by
    obtain ⟨vs, h1, h2⟩ := xvs_spec (S := (· ∈ o.op.operands)) hx (fun x hx => by simp only [ho, Op.operands, Call.operands]; exact Array.mem_append.2 (.inr (by simpa using hx))) (K := fun vs => call f vs σ K) h0
    obtain ⟨hf, v, σ', h3, h4, h5⟩ := hcall h1
    refine ⟨v, σ', h3, h4, fun {E B m a w} hB hR hA => ?_⟩
    refine Does.enter (w' := w) (args := ⟨c.args.toList.map a.eval⟩) ?_ (h5 hB hR (h2 m a hA))
    have : (⟨c.args.toList.map a.eval⟩ : Array Value) = c.args.map a.eval := by apply Array.ext'; simp
    simp only [execOp, ho, resolve, hc, Act.eval, Deferred.ofValue, Sem.run_bind, Sem.run_pure, Result.andThen_ok, invoke, Array.empty_append, Array.append_empty, run_callFunc hN hf, this]
theorem ms_callv (hN : NoNum P) {c : Call} {x : Operand} {X : Ev.X} {Xs : List Ev.X} (ho : o.op = .call c) (hc : c.callee = .value x) (hX : cX x = some X) (hx : cXs c.args.toList = some Xs) : MS P o (mCallv X Xs) where
  run := fun {call} hcall {A σ K} h0 => by
    obtain ⟨v, g1, g2⟩ := xv_spec (S := (· ∈ o.op.operands)) hX (by simp [ho, Op.operands, Call.operands, hc]) (K := fun v => asF v fun f cs => xvs Xs A fun vs => appK vs cs fun vs => call f vs σ K) h0
    obtain ⟨f, cs, rfl, g3⟩ := asF_spec g1
    obtain ⟨vs, h1, h2⟩ := xvs_spec (S := (· ∈ o.op.operands)) hx (fun x hx => by simp only [ho, Op.operands, Call.operands]; exact Array.mem_append.2 (.inr (by simpa using hx))) (K := fun vs => appK vs cs fun vs => call f vs σ K) g3
    rw [appK_eq] at h1
    obtain ⟨hf, v, σ', h3, h4, h5⟩ := hcall h1
    refine ⟨v, σ', h3, h4, fun {E B m a w} hB hR hA => ?_⟩
    have e1 := g2 m a hA
    generalize hg : a.eval x = b at e1
    cases e1 with
    | f _ _ cs' hn hv =>
      refine Does.enter (w' := w) (args := ⟨c.args.toList.map a.eval ++ cs'⟩) ?_ (h5 hB hR ((h2 m a hA).append ⟨hn, hv⟩))
      have : (⟨c.args.toList.map a.eval ++ cs'⟩ : Array Value) = c.args.map a.eval ++ ⟨cs'⟩ := by apply Array.ext'; simp
      simp only [execOp, ho, resolve, hc, hg, Deferred.ofValue, Sem.run_bind, Sem.run_pure, Result.andThen_ok, invoke, Array.empty_append, run_callFunc hN hf, this]
theorem methOf_spec {t : TypeId} {name : String} {f : FuncId} (h : methOf P t name = some f) (v : Value) (n : Nat) : (method (n + 1) t v name).run P w = .ok (f, v) w := by
  unfold methOf at h
  split at h
  · cases h
  · rename_i i hi
    split at h
    · rename_i mm e hm hu
      split at h
      · rename_i f' hp hf
        cases h
        simp [method, typeInfo, hi, hm, follow, hp, hf, receiverAt, run_underlying hu, Place.get]
      · cases h
    · cases h
theorem ms_inv (hN : NoNum P) {c : Call} {x : Operand} {name : String} {X : Ev.X} {Xs : List Ev.X} (ho : o.op = .call c) (hc : c.callee = .invoke x name) (hX : cX x = some X) (hx : cXs c.args.toList = some Xs) : MS P o (mInv P name X Xs) where
  run := fun {call} hcall {A σ K} h0 => by
    obtain ⟨v, g1, g2⟩ := xv_spec (S := (· ∈ o.op.operands)) hX (by simp [ho, Op.operands, Call.operands, hc])
      (K := fun v => asFc v fun t u => asP u fun id o => xvs Xs A fun vs => Option.casesOn (motive := fun _ => Bool) (methOf P t name) false fun f => call f (.p id o :: vs) σ K) h0
    obtain ⟨t, u, rfl, g3⟩ := asFc_spec g1
    obtain ⟨id, off, rfl, g4⟩ := asP_spec g3
    obtain ⟨vs, h1, h2⟩ := xvs_spec (S := (· ∈ o.op.operands)) hx (fun x hx => by simp only [ho, Op.operands, Call.operands]; exact Array.mem_append.2 (.inr (by simpa using hx)))
      (K := fun vs => Option.casesOn (motive := fun _ => Bool) (methOf P t name) false fun f => call f (.p id off :: vs) σ K) g4
    cases hm : methOf P t name with
    | none => rw [hm] at h1; cases h1
    | some f =>
      rw [hm] at h1
      obtain ⟨hf, v, σ', h3, h4, h5⟩ := hcall h1
      refine ⟨v, σ', h3, h4, fun {E B m a w} hB hR hA => ?_⟩
      have e1 := g2 m a hA
      generalize hg : a.eval x = b at e1
      cases e1 with
      | fc _ _ v' hv =>
        refine Does.enter (w' := w) (args := ⟨v' :: c.args.toList.map a.eval⟩) ?_ (h5 hB hR (VRs.cons hv (h2 m a hA)))
        have hargs : (#[Value.iface t v'] ++ c.args.map a.eval).extract 1 (#[Value.iface t v'] ++ c.args.map a.eval).size = c.args.map a.eval := by
          apply Array.ext'
          simp
          exact List.take_of_length_le (by simp)
        have h0 : (#[Value.iface t v'] ++ c.args.map a.eval)[0]? = some (.iface t v') := by rw [Array.getElem?_append_left (by simp)]; rfl
        have : (⟨v' :: c.args.toList.map a.eval⟩ : Array Value) = #[v'] ++ c.args.map a.eval := by apply Array.ext'; simp
        have hfu : P.types.size + Made.depth = (P.types.size + 99) + 1 := rfl
        simp only [execOp, ho, resolve, hc, hg, Sem.run_bind, Sem.run_pure, Result.andThen_ok, invoke, h0, hargs, callMethod, run_program, hfu, methOf_spec hm, run_callFunc hN hf, this]

/-! ### A select of one case, with a default -/
theorem zeroAg_spec {t : TypeId} {z : List V} (h : zeroAg P t = some z) : ∃ cs : Array Value, (∀ m, VR m (.ag z) (.agg cs)) ∧ ∀ w, (zeroValue t).run P w = .ok (.agg cs) w := by
  unfold zeroAg at h
  split at h
  · rename_i i hi
    split at h
    · rename_i cs hz
      exact ⟨cs, fun m => .ag z cs.toList (cVs_spec h m).len (cVs_spec h m).at_ (cVs_leafs h), fun w => by simp [zeroValue, typeInfo, hi, hz]⟩
    · cases h
  · cases h
theorem ms_sel {cs : Array SelectCase} {c : SelectCase} {X : Ev.X} {S : Option Ev.X} {z : List V} (ho : o.op = .select cs false) (hcs : cs.toList = [c]) (hX : cX c.chan = some X) (hS : cXo c.send = some S) (hz : zeroAg P c.elem = some z) : MS P o (mSel S (.ag z) X) where
  run := fun {call} _ {A σ K} h0 => by
    have hcs' : cs = #[c] := by apply Array.ext'; simpa using hcs
    obtain ⟨zc, hzv, hzr⟩ := zeroAg_spec hz
    obtain ⟨v, h1, h2⟩ := xv_spec (S := (· ∈ o.op.operands)) hX (by simp [ho, Op.operands, hcs']) (K := fun v => asCh v fun id => T.getK id σ.heap fun ob => asChan ob fun cap buf =>
      Option.casesOn (motive := fun _ => Bool) S
        (List.casesOn (motive := fun _ => Bool) buf (K (.tu [.i .i64 (.negSucc 0), .b false, .ag z]) σ) fun v buf => σ.put id (some (.chan cap buf)) fun σ => K (.tu [.i .i64 (.ofNat 0), .b true, v]) σ)
        (fun x => xv x A fun v => yes (Nat.blt (lenK buf) cap) (appK buf [v] fun buf => σ.put id (some (.chan cap buf)) fun σ => K (.tu [.i .i64 (.ofNat 0), .b false]) σ))) h0
    obtain ⟨id, rfl, h3⟩ := asCh_spec h1
    obtain ⟨ob, h4, h5⟩ := T.getK_spec id (t := σ.heap) h3
    obtain ⟨cap, buf, rfl, h6⟩ := asChan_spec h5
    have tup : ∀ {m : Mp} {l : List V} {l' : List Value}, VRs m l l' → VR m (.tu l) (.tuple ⟨l'⟩) := fun h => .tu _ _ h.len h.at_
    cases hsend : c.send with
    | none =>
      rw [hsend] at hS
      simp [cXo] at hS
      subst hS
      have hrun : ∀ {a : Act} {w : World} {r : Nat}, a.eval c.chan = .chan (some r) → (execOp a.eval o).run P w = .ok (.comm #[Conc.rcase r (.agg zc)] false .select) w := fun {a w r} hg => by
        simp [execOp, ho, hcs', Array.mapM_eq_mapM_toList, hsend, hg, hzr, Conc.rcase]
      cases buf with
      | nil =>
        have h6 : K (.tu [.i .i64 (.negSucc 0), .b false, .ag z]) σ = true := h6
        refine ⟨_, σ, h6, Nat.le_refl _, fun {E B m a w} hB hR hA => ?_⟩
        obtain ⟨pl, hm, hg⟩ := (h2 m a hA).ch_inv
        obtain ⟨xo, hw, hx⟩ := hR.read h4 hm
        cases hx with
        | chan _ _ _ buf' s r hv =>
          have : buf' = [] := by
            cases buf' with
            | nil => rfl
            | cons _ _ => exact absurd hv.len (by simp)
          subst this
          refine Does.select (hrun hg) (fun fr cs es he => Conc.step_lone_select_default he hw) ⟨m, Ext.refl, tup (VRs.cons (.i _ _) (VRs.cons (.b _) (VRs.cons (hzv m) VRs.nil))), hR⟩
      | cons v buf =>
        have h6 : σ.put id (some (.chan cap buf)) (fun σ => K (.tu [.i .i64 (.ofNat 0), .b true, v]) σ) = true := h6
        obtain ⟨σ', h7, h8, h9, _⟩ := put_spec h6
        refine ⟨_, σ', h7, by omega, fun {E B m a w} hB hR hA => ?_⟩
        obtain ⟨pl, hm, hg⟩ := (h2 m a hA).ch_inv
        obtain ⟨xo, hw, hx⟩ := hR.read h4 hm
        cases hx with
        | chan _ _ _ buf' s r hv =>
          obtain ⟨v', t', rfl, h10, h11⟩ := hv.uncons
          refine Does.select (w' := w.setChan pl.blk cap ⟨t'⟩ false s (r + 1) false) (v := .tuple #[goInt 0, .bool true, v']) (hrun hg) (fun fr cs es he => ?_) ⟨m, Ext.refl, tup (VRs.cons (.i _ _) (VRs.cons (.b _) (VRs.cons h10 VRs.nil))), ?_⟩
          · have := Conc.step_lone_select_recv_buf he hw (by simp)
            rw [this]
            have h1 : (⟨v' :: t'⟩ : Array Value).extract 1 (⟨v' :: t'⟩ : Array Value).size = ⟨t'⟩ := by apply Array.ext'; simp
            rw [h1]
            rfl
          · rw [h9, h8]
            exact hR.write h4 hm (At.setObj hw) (.chan cap buf pl t' s (r + 1) h11)
    | some y =>
      rw [hsend] at hS
      simp only [cXo] at hS
      split at hS
      · rename_i Y hY
        cases hS
        have h6 : xv Y A (fun v => yes (Nat.blt (lenK buf) cap) (appK buf [v] fun buf => σ.put id (some (.chan cap buf)) fun σ => K (.tu [.i .i64 (.ofNat 0), .b false]) σ)) = true := h6
        obtain ⟨v, h7, h8⟩ := xv_spec (S := (· ∈ o.op.operands)) hY (by simp [ho, Op.operands, hcs', hsend]) h6
        rw [yes_iff, lenK_eq, appK_eq] at h7
        obtain ⟨h9, h10⟩ := h7
        obtain ⟨σ', h11, h12, h13, _⟩ := put_spec h10
        refine ⟨_, σ', h11, by omega, fun {E B m a w} hB hR hA => ?_⟩
        obtain ⟨pl, hm, hg⟩ := (h2 m a hA).ch_inv
        obtain ⟨xo, hw, hx⟩ := hR.read h4 hm
        have hroom : buf.length < cap := by simpa using h9
        have hrun : (execOp a.eval o).run P w = .ok (.comm #[Conc.scase pl.blk (a.eval y) (.agg zc)] false .select) w := by
          simp [execOp, ho, hcs', Array.mapM_eq_mapM_toList, hsend, hg, hzr, Conc.scase]
        cases hx with
        | chan _ _ _ buf' s r hv =>
          refine Does.select (w' := w.setChan pl.blk cap ⟨buf' ++ [a.eval y]⟩ false (s + 1) r false) (v := .tuple #[goInt 0, .bool false]) hrun (fun fr cs es he => ?_) ⟨m, Ext.refl, tup (VRs.cons (.i _ _) (VRs.cons (.b _) VRs.nil)), ?_⟩
          · have := Conc.step_lone_select_send_room he hw (by have := hv.len; simp; omega)
            rw [this]
            have h1 : (⟨buf'⟩ : Array Value).push (a.eval y) = ⟨buf' ++ [a.eval y]⟩ := by apply Array.ext'; simp
            rw [h1]
          · rw [h13, h12]
            exact hR.write h4 hm (At.setObj hw) (.chan cap _ pl _ (s + 1) r (hv.append (VRs.cons (h8 m a hA) VRs.nil)))
      · cases hS
end
end Go.Ev
