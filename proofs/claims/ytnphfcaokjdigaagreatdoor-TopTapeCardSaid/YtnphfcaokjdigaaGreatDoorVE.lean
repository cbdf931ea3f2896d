/- append, and what is compiled: each says what the real one does. -/
import Derived.Test.YtnphfcaokjdigaaGreatDoorVD
set_option linter.unusedVariables false
set_option linter.unusedSimpArgs false
namespace Go.Ev
open Go
section
variable {E : Env} {B : Nat} {m : Mp} {h : Pa → Option AO} {N : Nat} {w w' w'' : World} {P : Program} {o : Oper}

/-! ### append -/
theorem new_spec {σ : St} {x : AO} {K : Pa → St → Bool} (h : σ.new x K = true) : ∃ σ', K σ.next σ' = true ∧ σ'.N = σ.N + 1 ∧ σ'.heap.get = upd σ.heap.get σ.next (some x) := by
  obtain ⟨u, h1, h2⟩ := T.setF_spec σ.next (K := fun h => σ.next.succF fun n => K σ.next ⟨h, n⟩) h
  obtain ⟨q, h3, h4⟩ := Pa.succF_spec σ.next (K := fun n => K σ.next ⟨u, n⟩) h1
  exact ⟨_, h3, h4, funext h2⟩
theorem OR.grown {l : List V} {olds : List Value} (h : VRs m l olds) (hl : Leafs l) (ext : Array Value) (b sz s : Nat) (t : TypeId) (hs : s = (olds.toArray ++ ext).size) : OR m (.cells sz l) ⟨b, 0, s, sz⟩ (.cells (olds.toArray ++ ext) t) :=
  .cells sz l _ _ t (0, 0) rfl hs (by have := h.len; simp; omega) (fun i v hv => by
    obtain ⟨v', h1, h2⟩ := h.get hv
    refine ⟨v', ?_, h2⟩
    have : i < olds.length := by
      rcases Nat.lt_or_ge i olds.length with c | c
      · exact c
      · rw [List.getElem?_eq_none c] at h1; cases h1
    simp only [Nat.zero_add, Array.toList_append]
    rw [List.getElem?_append_left this, h1]) hl (.inl rfl)
theorem le_grown (w : World) (n old : Nat) (e : TypeId) : n ≤ grownCap w n old e := Nat.le_add_right _ _
theorem R.drop (hR : R E B m h N w) (id : Pa) : R E B m (upd h id none) N w := hR.weaken fun q o hq => by
  unfold upd at hq
  split at hq
  · cases hq
  · exact hq
theorem upd_none (hR : R E B m h N w) {id : Pa} (hid : id.toNat = N) (hN : N < B) : m id = none := hR.fresh id (by omega) (by omega)
structure AppTy (P : Program) (t u e : TypeId) (i : TypeInfo) (z : Value) : Prop where
  ht : P.underlying t = some (.slice e)
  hi : P.info? e = some i
  hz : i.zero = some z
  hs : z.cells.size = i.size
  hb : i.bytes ≤ 1000
theorem fits {need old b : Nat} (h : old < need) (hn : need ≤ 10000) (hb : b ≤ 1000) : Builtin.nextslicecap need old * b ≤ 281474976710656 := by
  have h1 := nextslicecap_le h
  have h2 : Builtin.nextslicecap need old * b ≤ 20000 * 1000 := Nat.mul_le_mul (by omega) hb
  omega
theorem zeroCells_size (zc : Array Value) (n : Nat) : (Builtin.zeroCells zc n).size = n * zc.size := by simp [Builtin.zeroCells]
/-- No room: a new row. -/
theorem app_grow {t u e ty : TypeId} {i : TypeInfo} {z : Value} (D : AppTy P t u e i z) {l new : List V} {olds news : List Value} (hl : VRs m l olds) (hn : VRs m new news) (hll : Leafs l) (hnl : Leafs new) {base : Option Addr} {sLen sCap n : Nat} {x : Value}
    (hold : (Builtin.firstCells i.size sLen (.slice base sLen sCap)).run P w.drew = .ok olds.toArray w.drew) (hlo : olds.length = sLen * i.size) (hs : Src P i.size u x n news w) (hg : sCap < sLen + n) (hle : sLen + n ≤ 10000)
    {sz : Nat} (hsz : sz = i.size) {id : Pa} (hid : id.toNat = N) (hN : N < B) (hR : R E B m h N w) :
    ∃ v' w' m', (Builtin.append_ #[t, u] ty #[.slice base sLen sCap, x]).run P w = .ok v' w' ∧ Ext B m m' ∧ VR m' (.sl id 0 (sLen + n) (sLen + n)) v' ∧ R E B m' (upd h id (some (.cells sz (l ++ new)))) (N + 1) w' := by
  have hrun := run_append_grow_src w t u ty e i z D.ht D.hi D.hz base sLen sCap olds hold x n news hs hg (by omega) (fits hg hle D.hb)
  have hgc := le_grown w (sLen + n) sCap e
  generalize hgg : grownCap w (sLen + n) sCap e = gc at hrun hgc
  have hnl' := hs.newsLen
  subst hsz
  have hsize : gc * i.size = ((olds ++ news).toArray ++ Builtin.zeroCells z.cells (gc - (sLen + n))).size := by
    simp only [Array.size_append, List.size_toArray, List.length_append, zeroCells_size, D.hs, hlo, hnl']
    rw [← Nat.add_mul, ← Nat.add_mul]; congr 1; omega
  have hnone := upd_none hR hid hN
  refine ⟨_, _, m.add id ⟨w.heap.size, 0, gc * i.size, i.size⟩, hrun, Ext.add _ hnone (by omega), ?_, ?_⟩
  · exact .sl id 0 _ _ ⟨w.heap.size, 0, gc * i.size, i.size⟩ 0 gc (by simp [Mp.add]) (Nat.le_refl _) hgc (.inl rfl) (by simp)
  · exact (hR.drawn (w.drawn + 1)).alloc hid hN rfl (OR.grown (hl.append hn) (hll.append hnl) _ _ _ _ e hsize)
theorem app2_spec {t u e ty : TypeId} {i : TypeInfo} {z : Value} (D : AppTy P t u e i z) {σ : St} {sz : Nat} (hsz : sz = i.size) {s : V} {new : List V} {n : Nat} {K : V → St → Bool} (h0 : app2 σ sz s new n K = true) :
    ∃ v σ', K v σ' = true ∧ σ.N ≤ σ'.N ∧ ∀ {E B m w sv x news}, σ'.N ≤ B → R E B m σ.heap.get σ.N w → VR m s sv → VRs m new news → Leafs new → Src P i.size u x n news w →
      ∃ v' w' m', (Builtin.append_ #[t, u] ty #[sv, x]).run P w = .ok v' w' ∧ Ext B m m' ∧ VR m' v v' ∧ R E B m' σ'.heap.get σ'.N w' := by
  rcases asSl_spec h0 with ⟨rfl, h1⟩ | ⟨id, off, len, cap, rfl, h1⟩
  · rw [ife_iff] at h1
    rcases h1 with ⟨hn, h1⟩ | ⟨hn, h1⟩
    · obtain rfl := Nat.eq_of_beq_eq_true hn
      refine ⟨_, σ, h1, Nat.le_refl _, fun {E B m w sv x news} hB hR hv hnv hnl hs => ?_⟩
      cases hv
      refine ⟨.slice none 0 0, w, m, ?_, Ext.refl, .ns, hR⟩
      rcases hs.kind with ⟨e', hk⟩ | hk <;> simp [Builtin.append_, run_underlying D.ht, run_underlying hk, sizeOf, typeInfo, D.hi, hs.len, hs.cells]
    · have hn : n ≠ 0 := fun e => by subst e; simp at hn
      rw [yes_iff] at h1
      have hle : n ≤ 10000 := by simpa using h1.1
      obtain ⟨σ', h2, h3, h4⟩ := new_spec h1.2
      refine ⟨_, σ', h2, by omega, fun {E B m w sv x news} hB hR hv hnv hnl hs => ?_⟩
      cases hv
      have := app_grow (ty := ty) D VRs.nil hnv Leafs.nil hnl (base := none) (sLen := 0) (sCap := 0) (run_firstCells_none w.drew i.size 0 0 0) (by simp) hs (by omega) (by omega) hsz (id := σ.next) (N := σ.N) rfl (by omega) hR
      rw [h4, h3]
      simpa using this
  · rw [fNat_eq, ife_iff] at h1
    rcases h1 with ⟨hf, h1⟩ | ⟨hf, h1⟩
    · have hfit : len + n ≤ cap := by simpa using hf
      obtain ⟨σ', sz', cs, h2, h3, h4, h5, h6⟩ := stN_spec h1
      refine ⟨_, σ', h2, by omega, fun {E B m w sv x news} hB hR hv hnv hnl hs => ?_⟩
      obtain ⟨pl, off', cap', hm, rfl, hl, hc, hof, hb⟩ := hv.sl_inv
      obtain ⟨xo, hw, hx⟩ := hR.read h4 hm
      obtain ⟨x', k1, k2, k3, k4⟩ := hx.write hw hnv hnl h5
      obtain ⟨k5, _⟩ := hR.store (P := P) h4 hm hnv hnl h5
      have hnl' := hs.newsLen
      refine ⟨.slice (some ⟨pl.blk, off', none⟩) (len + n) cap', w.setCells pl.blk (pl.base + (off + len * sz)) news, m, ?_, Ext.refl, .sl id off (len + n) cap pl off' cap' hm hfit hc hof hb, by rw [h6, h3]; exact k5⟩
      by_cases hcap : cap' = 0
      · have hn0 : n = 0 := by omega
        subst hn0
        have hnil : news = [] := List.eq_nil_of_length_eq_zero (by simpa using hnl')
        subst hnil
        exact run_append_room_src w t u ty e i D.ht D.hi pl.blk off' len cap' x 0 [] hs (by omega) (by simp) (by simp)
      · obtain rfl := hof.resolve_right hcap
        subst hsz
        rw [← Nat.add_assoc]
        exact run_append_room_src w t u ty e i D.ht D.hi pl.blk (pl.base + off) len cap' x n news hs (by omega) (by intro j hj; have := k3 j hj; rwa [← Nat.add_assoc] at this) (by intro j hj; have := k4 j hj; rwa [← Nat.add_assoc] at this)
    · have hfit : cap < len + n := by
        rcases Nat.lt_or_ge cap (len + n) with c | c
        · exact c
        · rw [Nat.ble_eq_true_of_le c] at hf; cases hf
      rw [yes_iff] at h1
      obtain ⟨hle, h1⟩ := h1
      have hle : len + n ≤ 10000 := by simpa using hle
      obtain ⟨ob, h2, h3⟩ := T.getK_spec id (t := σ.heap) h1
      obtain ⟨sz', cs, rfl, h4⟩ := asCells_spec h3
      rw [yes_iff] at h4
      obtain ⟨hsz', h4⟩ := h4
      obtain rfl := Nat.eq_of_beq_eq_true hsz'
      obtain ⟨h5, h6⟩ := dropK_spec off h4
      obtain ⟨h7, h8⟩ := takeK_spec _ h6
      rw [appK_eq] at h8
      obtain ⟨σ1, h9, h10, h11, h12⟩ := put_spec h8
      obtain ⟨σ', h13, h14, h15⟩ := new_spec h9
      rw [h12] at h13 h15
      rw [h11] at h15
      refine ⟨_, σ', h13, by omega, fun {E B m w sv x news} hB hR hv hnv hnl hs => ?_⟩
      obtain ⟨pl, off', cap', hm, rfl, hl, hc, hof, hb⟩ := hv.sl_inv
      have hN : σ.N < B := by omega
      rw [h15, h14, h10]
      by_cases hroom : len + n ≤ cap'
      · obtain rfl := hof.resolve_right (by omega)
        obtain ⟨xo, hw, hx⟩ := hR.read h2 hm
        have hnl' := hs.newsLen
        have hlenv := hnv.len
        cases hx with
        | cells _ _ _ c elem fz hse hn hbb hh hlf hfz =>
          obtain ⟨c', k1, k2, k3⟩ := setCells_at news (pl.base + off + len * sz) c w hw
          have hmul : (len + n) * sz ≤ cap' * sz := Nat.mul_le_mul_right _ hroom
          have hmul2 : (len + n) * sz = len * sz + n * sz := Nat.add_mul _ _ _
          rw [hse] at hb
          have hnsz : news.length = n * sz := by rw [hnl', hsz]
          have hrun := run_append_room_src w t u ty e i D.ht D.hi pl.blk (pl.base + off) len cap' x n news hs hroom
            (by intro j hj; rw [← hsz]; exact cell_some hw (by omega)) (by intro j hj; rw [← hsz]; exact frozen_no hw hfz (by omega))
          rw [← hsz] at hrun
          have hdl : ((cs.drop off).take (len * sz)).length = len * sz := by rw [List.length_take]; omega
          refine ⟨_, _, m.add σ.next ⟨pl.blk, pl.base + off, pl.size, pl.esz⟩, hrun, Ext.add _ (upd_none hR rfl hN) hN, .sl σ.next 0 (len + n) (len + n) ⟨pl.blk, pl.base + off, pl.size, pl.esz⟩ (pl.base + off) cap' (by simp [Mp.add]) (Nat.le_refl _) hroom (.inl rfl) (by simpa [hse] using hb), ?_⟩
          refine hR.rebind rfl hN h2 hm rfl k1 (.cells sz _ _ c' elem fz hse (hn.trans k2.symm) ?_ (fun j v hv => ?_) (((hlf.drop off).take _).append hnl) (by rw [k2]; exact hfz))
          · simp only [List.length_append, hdl]; omega
          · rw [Array.getElem?_toList, k3]
            by_cases hj : j < len * sz
            · rw [List.getElem?_append_left (by omega), List.getElem?_take, if_pos hj, List.getElem?_drop] at hv
              obtain ⟨v', q1, q2⟩ := hh _ v hv
              rw [if_neg (by simp; omega)]
              refine ⟨v', ?_, q2⟩
              rw [Array.getElem?_toList] at q1
              rw [← q1]; congr 1; simp; omega
            · rw [List.getElem?_append_right (by omega), hdl] at hv
              obtain ⟨v', q1, q2⟩ := hnv.get hv
              have hlt : j - len * sz < news.length := by
                rcases Nat.lt_or_ge (j - len * sz) news.length with c | c
                · exact c
                · rw [List.getElem?_eq_none c] at q1; cases q1
              rw [if_pos (by simp; omega)]
              refine ⟨v', ?_, q2⟩
              rw [← q1]; congr 1; simp; omega
      · obtain ⟨olds, k1, k2, k3⟩ := hR.loadSl h2 hm hof (len * sz) (by omega) (fun e => by
          have : len = 0 := by omega
          subst this; simp)
        have hold := run_firstCells_some (P := P) w.drew i.size len ⟨pl.blk, off', none⟩ len cap' olds (by rw [k2, hsz]) (by simpa using k3)
        obtain ⟨xo, hw, hx⟩ := hR.read h2 hm
        have hlf : Leafs cs := by cases hx; assumption
        exact app_grow (ty := ty) D k1 hnv ((hlf.drop off).take _) hnl hold (by rw [k2, hsz]) hs (by omega) hle hsz rfl hN (hR.drop id)
theorem ms_app {c : Call} {t u e e' : TypeId} {X Y : Ev.X} (ho : o.op = .call c) (hc : c.callee = .builtin .append) (hx : cXs c.args.toList = some [X, Y]) (ht : c.argTypes.toList = [t, u]) (hu : P.underlying t = some (.slice e))
    (hu' : P.underlying u = some (.slice e')) (hb : Nat.ble (P.bytesOf e) 1000 = true) (hz : (zeroL P e).isSome = true) : MS P o (mApp (P.cellsOf e) X Y) where
  run := fun {call} _ {A σ K} h0 => by
    obtain ⟨x, r, hxs, hx, hr⟩ := cXs_cons hx
    obtain ⟨y, rfl, hy⟩ := cXs_one hr
    have hargs : c.args = #[x, y] := by apply Array.ext'; simpa using hxs
    have hts : c.argTypes = #[t, u] := by apply Array.ext'; simpa using ht
    obtain ⟨zl, hz⟩ := Option.isSome_iff_exists.1 hz
    obtain ⟨it, zv, z1, z2, z3, z4, z5⟩ := zeroL_spec hz
    have hsz : P.cellsOf e = it.size := cellsOf_info z1
    have D : AppTy P t u e it zv := ⟨hu, z1, z2, by rw [← z3, Array.length_toList], by rw [← bytesOf_info z1]; simpa using hb⟩
    obtain ⟨s, h1, h2⟩ := xv_spec (S := (· ∈ o.op.operands)) hx (by simp [ho, Op.operands, Call.operands, hargs, hc])
      (K := fun s => xv Y A fun v => asSl v (app2 σ (P.cellsOf e) s [] 0 K) fun id o n _ => T.getK id σ.heap fun ob => asCells ob fun _ cs => dropK o cs fun l => takeK (n * P.cellsOf e) l fun new => app2 σ (P.cellsOf e) s new n K) h0
    obtain ⟨v, h3, h4⟩ := xv_spec (S := (· ∈ o.op.operands)) hy (by simp [ho, Op.operands, Call.operands, hargs, hc])
      (K := fun v => asSl v (app2 σ (P.cellsOf e) s [] 0 K) fun id o n _ => T.getK id σ.heap fun ob => asCells ob fun _ cs => dropK o cs fun l => takeK (n * P.cellsOf e) l fun new => app2 σ (P.cellsOf e) s new n K) h1
    have main : ∀ {new n}, app2 σ (P.cellsOf e) s new n K = true → (∀ {E B m a w}, R E B m σ.heap.get σ.N w → AG (· ∈ o.op.operands) m A a → ∃ news, VRs m new news ∧ Leafs new ∧ Src P it.size u (a.eval y) n news w) →
        ∃ v σ', K v σ' = true ∧ σ.N ≤ σ'.N ∧ ∀ {E B m a w}, σ'.N ≤ B → R E B m σ.heap.get σ.N w → AG (· ∈ o.op.operands) m A a → Does P o a w fun v' w' => ∃ m', Ext B m m' ∧ VR m' v v' ∧ R E B m' σ'.heap.get σ'.N w' := fun {new n} happ hsrc => by
      obtain ⟨v, σ', k1, k2, k3⟩ := app2_spec (ty := o.type) D hsz happ
      refine ⟨v, σ', k1, k2, fun {E B m a w} hB hR hA => ?_⟩
      obtain ⟨news, s1, s2, s3⟩ := hsrc hR hA
      obtain ⟨v', w', m', r1, r2, r3, r4⟩ := k3 hB hR (h2 m a hA) s1 s2 s3
      refine Does.value (exec_builtin ho hc a ?_) ⟨m', r2, r3, r4⟩
      have hm : (#[x, y] : Array Operand).map a.eval = #[a.eval x, a.eval y] := by simp
      simp only [builtin, hts, hargs, hm, Sem.run_bind, r1, Result.andThen_ok, Sem.run_pure]
    rcases asSl_spec h3 with ⟨rfl, h5⟩ | ⟨id, off, n, cp, rfl, h5⟩
    · refine main h5 fun {E B m a w} hR hA => ⟨[], VRs.nil, Leafs.nil, ?_⟩
      have e1 := h4 m a hA
      generalize hg1 : a.eval y = b1 at e1
      cases e1
      exact Src.ofNil w hu' 0
    · obtain ⟨ob, h6, h7⟩ := T.getK_spec id (t := σ.heap) h5
      obtain ⟨sz, cs, rfl, h8⟩ := asCells_spec h7
      obtain ⟨h9, h10⟩ := dropK_spec off h8
      obtain ⟨h11, h12⟩ := takeK_spec _ h10
      refine main h12 fun {E B m a w} hR hA => ?_
      obtain ⟨pl, off', cap', hm, hg1, hl, hcc, hof, hb⟩ := (h4 m a hA).sl_inv
      obtain ⟨news, k1, k2, k3⟩ := hR.loadSl h6 hm hof (n * P.cellsOf e) h11 (fun e => by
        have : n = 0 := by omega
        subst this; simp)
      obtain ⟨xo, hw, hx⟩ := hR.read h6 hm
      have hlf : Leafs cs := by cases hx; assumption
      have hlf' : Leafs ((cs.drop off).take (n * P.cellsOf e)) := (hlf.drop off).take _
      refine ⟨news, k1, hlf', ?_⟩
      rw [hg1]
      exact Src.ofSlice w hu' _ n cap' news (by rw [k2, hsz]) k3 (hlf'.one k1)
end
end Go.Ev
namespace Go.Ev
open Go
def HS (P : Program) (o : Oper) : H → Prop
  | .q rd f => QS P o rd f
  | .a f => AS P o f
  | .m f => MS P o f
section
variable {P : Program} {o : Oper}
theorem nilTy_1 (e : TypeId) : nilTy 1 (.pointer e) := ⟨e, rfl⟩
theorem cEqs_sound {neg : Bool} {op : BinOp} {t ty : TypeId} {x y : Operand} {X Y : Ev.X} {f : HQ} (hop : op = bif neg then .neq else .eql) (ho : o.op = .binOp op t x y ty) (hx : cX x = some X) (hy : cX y = some Y)
    (h : cEqs P neg t (isConst x || isConst y) X Y = some f) : QS P o false f := by
  unfold cEqs at h
  split at h
  · cases h
    subst hop
    cases neg
    · exact qs_cmp ho hx hy cs_eq
    · exact qs_cmp ho hx hy cs_ne
  · rename_i hu; cases h; exact qs_eqb neg hop ho hx hy hu
  · cases h; exact qs_eqs neg hop ho hx hy
  · rename_i e hu; cases h; exact qs_eqn neg 1 hop ho hx hy hu ⟨e, rfl⟩ (by simp)
  · rename_i e hu; cases h; exact qs_eqn neg 2 hop ho hx hy hu ⟨e, rfl⟩ (by simp)
  · rename_i ms hu
    cases hb : (isConst x || isConst y) with
    | true => rw [hb] at h; cases h; exact qs_eqn neg 3 hop ho hx hy hu ⟨ms, rfl⟩ (fun _ => by simpa using hb)
    | false => rw [hb] at h; cases h
  · cases h
theorem cBin_sound {op : BinOp} {t ty : TypeId} {x y : Operand} {X Y : Ev.X} {f : HQ} (ho : o.op = .binOp op t x y ty) (hx : cX x = some X) (hy : cX y = some Y)
    (h : cBin P op t (isConst x || isConst y) X Y = some f) : QS P o false f := by
  cases op <;> simp only [cBin, Option.some.injEq, reduceCtorEq] at h
  case add => subst h; exact qs_int ho hx hy (gs_add t)
  case sub => subst h; exact qs_int ho hx hy (gs_sub t)
  case mul => subst h; exact qs_int ho hx hy (gs_mul t)
  case quo => subst h; exact qs_int ho hx hy (gs_quo t)
  case rem => subst h; exact qs_int ho hx hy (gs_rem t)
  case and => subst h; exact qs_int ho hx hy (gs_and t)
  case or => subst h; exact qs_int ho hx hy (gs_or t)
  case xor => subst h; exact qs_int ho hx hy (gs_xor t)
  case shl => subst h; exact qs_sh ho hx hy (gs_shl t)
  case shr => subst h; exact qs_sh ho hx hy (gs_shr t)
  case lss => subst h; exact qs_cmp ho hx hy cs_lt
  case leq => subst h; exact qs_cmp ho hx hy cs_le
  case gtr => subst h; exact qs_cmp ho hx hy cs_gt
  case geq => subst h; exact qs_cmp ho hx hy cs_ge
  case eql => exact cEqs_sound (neg := false) rfl ho hx hy h
  case neq => exact cEqs_sound (neg := true) rfl ho hx hy h
theorem cConv_sound {s d : TypeId} {x : Operand} {X : Ev.X} {f : H} (ho : o.op = .convert s d x) (hx : cX x = some X) (h : cConv P s d X = some f) : HS P o f := by
  unfold cConv at h
  split at h
  · rename_i j k hs hd; cases h; exact qs_cint ho hx hs hd
  · rename_i e hs hd
    split at h
    · rename_i he
      cases hb : Nat.beq (P.cellsOf e) 1 with
      | true => rw [hb] at h; cases h; exact qs_cstr ho hx hs hd he
      | false => rw [hb] at h; cases h
    · cases h
  · rename_i e' e hs hd
    split at h
    · rename_i he
      cases hb : Nat.beq s d with
      | true => rw [hb] at h; cases h; exact ms_frz ho hx hs hd he hb
      | false => rw [hb] at h; cases h
    · cases h
  · cases h
theorem cBuiltin_sound {c : Call} {b : Builtin} {xs : List Ev.X} {ts : List TypeId} {f : H} (ho : o.op = .call c) (hc : c.callee = .builtin b) (hx : cXs c.args.toList = some xs) (ht : c.argTypes.toList = ts) (h : cBuiltin P b xs ts = some f) : HS P o f := by
  unfold cBuiltin at h
  split at h
  · split at h
    · rename_i hu; cases h; exact qs_lens ho hc hx ht hu
    · rename_i hu; cases h; exact qs_lenm ho hc hx ht hu
    · cases h
  · cases h; exact qs_minmax (b := .min) (fun P w ts ty cst u v r h => run_min h) gs_min ho hc hx
  · cases h; exact qs_minmax (b := .max) (fun P w ts ty cst u v r h => run_max h) gs_max ho hc hx
  · split at h
    · rename_i e e' hu hu'
      cases hb : (Nat.ble (P.bytesOf e) 1000 && Nat.blt 0 (P.cellsOf e) && (zeroL P e).isSome) with
      | true =>
        rw [hb] at h; cases h
        simp only [Bool.and_eq_true] at hb
        exact ms_app ho hc hx ht hu hu' hb.1.1 hb.2
      | false => rw [hb] at h; cases h
    · cases h
  · split at h
    · rename_i e hu
      split at h
      · rename_i z hz
        cases hb : Nat.blt 0 (P.cellsOf e) with
        | true => rw [hb] at h; cases h; exact ms_clr ho hc hx ht hu hz
        | false => rw [hb] at h; cases h
      · cases h
    · cases h
  · cases h
theorem cCall_sound (hN : NoNum P) {c : Call} {xs : List Ev.X} {f : H} (ho : o.op = .call c) (hx : cXs c.args.toList = some xs) (h : cCall P c xs = some f) : HS P o f := by
  unfold cCall at h
  split at h
  · rename_i g hc
    split at h
    · cases h; exact ms_call hN ho hc hx
    · split at h
      · rename_i X hX; cases h; exact ms_callv hN ho hc hX hx
      · cases h
  · rename_i r name hc
    split at h
    · rename_i X hX; cases h; exact ms_inv hN ho hc hX hx
    · cases h
  · rename_i b hc
    exact cBuiltin_sound ho hc hx rfl h
theorem cI_sound (hN : NoNum P) {f : H} (h : cI P o.op = some f) : HS P o f := by
  cases ho : o.op <;> rw [ho] at h <;> simp only [cI, reduceCtorEq] at h
  case move x =>
    split at h
    · rename_i X hX; cases h; exact qs_mv (.inl ho) hX
    · cases h
  case assign x =>
    split at h
    · rename_i X hX; cases h; exact qs_mv (.inr ho) hX
    · cases h
  case pick c x y =>
    split at h
    · rename_i C X Y hC hX hY; cases h; exact qs_pick ho hC hX hY
    · cases h
  case build t parts =>
    split at h
    · rename_i fs hu
      split at h
      · rename_i z ps hz hps
        cases hb : (fs.toList.all fun f => (P.info? f.type).isSome) with
        | true => rw [hb] at h; cases h; exact qs_build ho hu hz hps hb
        | false => rw [hb] at h; cases h
      · cases h
    · cases h
  case load t x =>
    split at h
    · rename_i X hX
      cases hg : isAggB P t with
      | true => rw [hg] at h; cases h; exact qs_ldn ho hX hg
      | false =>
        rw [hg] at h
        cases hu : (P.underlying t).isSome with
        | true => rw [hu] at h; cases h; exact qs_ld1 ho hX hg hu
        | false => rw [hu] at h; cases h
    · cases h
  case nilCheck x =>
    split at h
    · rename_i X hX; cases h; exact qs_nil ho hX
    · cases h
  case binOp op t x y ty =>
    split at h
    · rename_i X Y hX hY
      split at h
      · rename_i q hq; cases h; exact cBin_sound ho hX hY hq
      · cases h
    · cases h
  case unOp op t x =>
    split at h
    · rename_i X hX; cases h; exact qs_not ho hX
    · cases h
  case convert s d x =>
    split at h
    · rename_i X hX; exact cConv_sound ho hX h
    · cases h
  case makeInterface t x =>
    split at h
    · cases h
    · rename_i X d hne hX hu
      cases h
      exact qs_fc ho hX hu fun ms e => hne ms e
    · cases h
  case makeFunc fn first captured =>
    split at h
    · rename_i f xs hf hx
      cases h
      have : first = #[] := by apply Array.ext'; simpa using hf
      subst this
      exact qs_fn ho hx
    · cases h
  case slice t x lo hi mx =>
    split at h
    · rename_i e X LO HI MX hu hX hlo hhi hmx
      cases hb : ((MX.isNone || HI.isSome) && Nat.blt 0 (P.cellsOf e)) with
      | true =>
        rw [hb] at h
        simp only [Bool.and_eq_true] at hb
        simp only [cond_true] at h
        split at h
        · cases h
          cases lo with
          | none => exact qs_slice ho hX hhi hmx hb.1 hu hb.2
          | some l => simp only [cXo] at hlo; split at hlo <;> cases hlo
        · cases h
          cases lo with
          | none => simp [cXo] at hlo
          | some l =>
            simp only [cXo] at hlo
            split at hlo
            · rename_i L hL; cases hlo; exact qs_slicer ho hX hL hhi hmx hb.1 hu hb.2
            · cases hlo
      | false => rw [hb] at h; cases h
    · cases h
  case fieldAddr s x i =>
    split at h
    · rename_i fs X hu hX
      split at h
      · rename_i fd hf
        cases hz : Nat.beq (P.cellsOf fd.type) 0 with
        | true => rw [hz] at h; cases h
        | false => rw [hz] at h; cases h; exact qs_fa ho hX hu hf hz
      · cases h
    · cases h
  case indexAddr t x i =>
    split at h
    · rename_i e X I hu hX hI
      cases hz : Nat.blt 0 (P.cellsOf e) with
      | true => rw [hz] at h; cases h; exact qs_ia ho hX hI hu hz
      | false => rw [hz] at h; cases h
    · cases h
  case lookup t x y ok =>
    split at h
    · rename_i kt et X Y hu hX hY
      split at h
      · rename_i z hk hz; cases h; exact qs_look ho hX hY hu hk hz
      · cases h
    · cases h
  case extract x i =>
    split at h
    · rename_i X hX; cases h; exact qs_ext ho hX
    · cases h
  case alloc t =>
    split at h
    · rename_i z hz; cases h; exact as_mk ho hz
    · cases h
  case box t x =>
    split at h
    · rename_i X hX; cases h; exact as_box ho hX
    · cases h
  case buildSlice t len parts =>
    split at h
    · rename_i e hu
      split at h
      · rename_i z ps hz hps
        cases hb : (Nat.ble (len * P.cellsOf e) 1000 && Nat.blt 0 (P.cellsOf e)) with
        | true =>
          rw [hb] at h; cases h
          simp only [Bool.and_eq_true] at hb
          exact as_bsl ho hu hz hps hb.1 hb.2
        | false => rw [hb] at h; cases h
      · cases h
    · cases h
  case makeMap t r =>
    split at h
    · cases h; exact as_map ho
    · cases h
  case makeChan t x =>
    split at h
    · rename_i d e X hu hX
      cases hb : (Nat.ble (P.bytesOf e) 1000 && (P.info? e).isSome) with
      | true =>
        rw [hb] at h; cases h
        simp only [Bool.and_eq_true] at hb
        exact as_chan ho hX hu hb.1 hb.2
      | false => rw [hb] at h; cases h
    · cases h
  case makeSlice t x y =>
    split at h
    · rename_i e X Y hu hX hY
      split at h
      · rename_i z hz
        cases hb : (Nat.ble (P.bytesOf e) 1000 && Nat.blt 0 (P.cellsOf e)) with
        | true =>
          rw [hb] at h; cases h
          simp only [Bool.and_eq_true] at hb
          exact as_mks ho hX hY hu hz hb.1 hb.2
        | false => rw [hb] at h; cases h
      · cases h
    · cases h
  case store t x y =>
    split at h
    · rename_i X Y hX hY
      cases hi : (P.info? t).isSome with
      | true => rw [hi] at h; cases h; exact ms_st ho hX hY hi
      | false => rw [hi] at h; cases h
    · cases h
  case mapUpdate t x y z =>
    split at h
    · rename_i kt et X Y Z hu hX hY hZ
      cases hk : isInt P kt with
      | true => rw [hk] at h; cases h; exact ms_put (.inl ho) hX hY hZ hu hk
      | false => rw [hk] at h; cases h
    · cases h
  case insert t x y z =>
    split at h
    · rename_i kt et X Y Z hu hX hY hZ
      cases hk : isInt P kt with
      | true => rw [hk] at h; cases h; exact ms_put (.inr ho) hX hY hZ hu hk
      | false => rw [hk] at h; cases h
    · cases h
  case call c =>
    split at h
    · rename_i xs hx; exact cCall_sound hN ho hx h
    · cases h
  case select cs b =>
    split at h
    · rename_i c hcs
      split at h
      · rename_i X S z hX hS hz; cases h; exact ms_sel ho hcs hX hS hz
      · cases h
    · cases h
end
end Go.Ev
