/- Cells laid over others; what an operation does, in steps. -/
import Derived.Test.YtnphfcaokjdigaaGreatDoorV9
import Derived.Deep.AppendSrc
import Derived.Conc.LoneSelect
set_option linter.unusedVariables false
set_option linter.unusedSimpArgs false
namespace Go.Ev
open Go

/-! ### Cells laid over others -/
theorem over_get (l cs : List V) (off : Nat) (h : off + cs.length ≤ l.length) (i : Nat) :
    (l.take off ++ (cs ++ l.drop (off + cs.length)))[i]? = if i < off then l[i]? else if i < off + cs.length then cs[i - off]? else l[i]? := by
  have ht : (l.take off).length = off := by rw [List.length_take]; omega
  by_cases c1 : i < off
  · rw [if_pos c1, List.getElem?_append_left (by omega), List.getElem?_take, if_pos c1]
  · rw [if_neg c1, List.getElem?_append_right (by omega), ht]
    by_cases c2 : i < off + cs.length
    · rw [if_pos c2, List.getElem?_append_left (by omega)]
    · rw [if_neg c2, List.getElem?_append_right (by omega), List.getElem?_drop]
      congr 1; omega
theorem over_len (l cs : List V) (off : Nat) (h : off + cs.length ≤ l.length) : (l.take off ++ (cs ++ l.drop (off + cs.length))).length = l.length := by
  simp only [List.length_append, List.length_take, List.length_drop]; omega
theorem Leafs.over {l cs : List V} (hl : Leafs l) (hc : Leafs cs) (off : Nat) : Leafs (l.take off ++ (cs ++ l.drop (off + cs.length))) := (hl.take off).append (hc.append (hl.drop _))
section
variable {m : Mp} {P : Program}
theorem VRs.over {l cs : List V} {x y : Array Value} {cl : List Value} {off : Nat} (hl : VRs m l x.toList) (hc : VRs m cs cl) (ho : off + cs.length ≤ l.length)
    (hs : y.size = x.size) (hy : ∀ k, y[k]? = if off + 0 ≤ k ∧ k < off + 0 + cl.length ∧ k < x.size then cl[k - (off + 0)]? else x[k]?) :
    VRs m (l.take off ++ (cs ++ l.drop (off + cs.length))) y.toList := by
  have h1 := hl.len
  have h2 := hc.len
  simp only [Array.length_toList] at h1
  refine ⟨(over_len _ _ _ ho).trans (by simp [hs, h1]), fun i v v' a b => ?_⟩
  rw [over_get _ _ _ ho] at a
  rw [Array.getElem?_toList, hy] at b
  by_cases c1 : i < off
  · rw [if_pos c1] at a
    rw [if_neg (by omega)] at b
    exact hl.at_ i v v' a (by simpa using b)
  · rw [if_neg c1] at a
    by_cases c2 : i < off + cs.length
    · rw [if_pos c2] at a
      rw [if_pos (by omega), Nat.add_zero] at b
      exact hc.at_ _ v v' a b
    · rw [if_neg c2] at a
      rw [if_neg (by omega)] at b
      exact hl.at_ i v v' a (by simpa using b)
theorem fill_spec {S : Operand → Prop} {place : Nat → Option (Nat × Nat)} : ∀ {parts : List (Nat × Operand)} {ps : List (Nat × Nat × X)}, cParts place parts = some ps → (∀ p ∈ parts, S p.2) →
    ∀ {A : Fr} {l : List V} {K : List V → Bool}, fillK ps A l K = true → ∃ l', K l' = true ∧ ∀ m a (cells : Array Value), AG S m A a → VRs m l cells.toList → Leafs l →
      ∃ cells', Instr.fill place cells (parts.map fun p => (p.1, a.eval p.2)) = some cells' ∧ VRs m l' cells'.toList ∧ Leafs l' ∧ cells'.size = cells.size
  | [], ps, hc, hS, A, l, K, h => by
    simp [cParts] at hc; subst hc
    exact ⟨l, h, fun m a cells _ hl hf => ⟨cells, rfl, hl, hf, rfl⟩⟩
  | (i, x) :: parts, ps, hc, hS, A, l, K, h => by
    simp only [cParts] at hc
    split at hc
    · rename_i off size X hp hX
      split at hc
      · rename_i qs hq
        cases hc
        obtain ⟨v, h1, h2⟩ := xv_spec (S := S) hX (hS (i, x) (by simp)) (A := A) (K := fun v => cellsK v fun cs => yes (Nat.beq (lenK cs) size) (overAtK cs off l fun l => fillK qs A l K)) h
        obtain ⟨h3, h4⟩ := cellsK_spec h1
        rw [yes_iff, lenK_eq] at h4
        obtain ⟨h5, h6⟩ := h4
        obtain ⟨h7, h8⟩ := overAtK_spec _ _ h6
        obtain ⟨l', h9, h10⟩ := fill_spec hq (fun p hp => hS p (by simp [hp])) h8
        refine ⟨l', h9, fun m a cells hA hl hf => ?_⟩
        obtain ⟨hv, hvl⟩ := (h2 m a hA).cells h3
        have hn := hv.len
        have hn2 := hl.len
        have h5 := Nat.eq_of_beq_eq_true h5
        simp only [Array.length_toList] at hn hn2
        obtain ⟨g1, g2⟩ := Go.Great.foldl_set off (a.eval x).cells.toList 0 cells
        obtain ⟨cells', k1, k2, k3, k4⟩ := h10 m a _ hA (VRs.over hl hv h7 g1 g2) (hf.over hvl off)
        refine ⟨cells', ?_, k2, k3, k4.trans g1⟩
        rw [List.map_cons]
        unfold Instr.fill
        simp only [hp]
        rw [if_neg (by simp; omega), ← k1]
        congr 1
        rw [← Array.foldl_toList, Array.toList_zipIdx]
      · cases hc
    · cases hc
end

/-! ### Zero values, one behind the other -/
theorem rep_get (z : List V) (n i : Nat) : (rep z n)[i]? = if i < n * z.length then z[i % z.length]? else none := by
  induction n generalizing i with
  | zero => simp [rep]
  | succ n ih =>
    simp only [rep]
    by_cases c : i < z.length
    · rw [List.getElem?_append_left c, if_pos (by rw [Nat.add_mul]; omega), Nat.mod_eq_of_lt c]
    · rw [List.getElem?_append_right (by omega), ih]
      by_cases c2 : i < (n + 1) * z.length
      · rw [if_pos c2, if_pos (by rw [Nat.add_mul] at c2; omega), Nat.mod_eq_sub_mod (a := i) (by omega)]
      · rw [if_neg c2, if_neg (by rw [Nat.add_mul] at c2; omega)]
theorem rep_len (z : List V) (n : Nat) : (rep z n).length = n * z.length := by
  induction n with
  | zero => simp [rep]
  | succ n ih => simp only [rep, List.length_append, ih, Nat.add_mul]; omega
theorem rep_leafs {z : List V} (h : Leafs z) (n : Nat) : Leafs (rep z n) := fun i v hv => by
  rw [rep_get] at hv
  split at hv
  · exact h _ v hv
  · cases hv
section
variable {m : Mp} {P : Program} {o : Oper} {w : World}
theorem VRs.rep {z : List V} {zc : Array Value} (h : VRs m z zc.toList) (n : Nat) : VRs m (rep z n) ((Array.range (n * zc.size)).map (zc[· % zc.size]!)).toList := by
  have h1 := h.len
  simp only [Array.length_toList] at h1
  refine ⟨by simp [rep_len, h1], fun i v v' a b => ?_⟩
  rw [rep_get] at a
  split at a
  · rename_i hi
    have hlt : i % zc.size < zc.size := Nat.mod_lt _ (by rcases Nat.eq_zero_or_pos zc.size with e | e <;> simp_all)
    rw [h1] at hi a
    have : ((Array.range (n * zc.size)).map (zc[· % zc.size]!)).toList[i]? = some (zc[i % zc.size]!) := by simp [hi]
    rw [this] at b
    cases b
    refine h.at_ _ v _ a ?_
    rw [Array.getElem?_toList, getElem!_pos zc _ hlt, Array.getElem?_eq_getElem hlt]
  · cases a

/-! ### A struct -/
theorem run_places_all (fs : List Field) (h : (fs.all fun f => (P.info? f.type).isSome) = true) : fs.mapM (fun f => (P.info? f.type).map fun i => (f.offset, i.size)) = some (fs.map fun f => (f.offset, P.cellsOf f.type)) := by
  induction fs with
  | nil => rfl
  | cons f fs ih =>
    simp only [List.all_cons, Bool.and_eq_true] at h
    obtain ⟨i, hi⟩ := Option.isSome_iff_exists.1 h.1
    simp [List.mapM_cons, ih h.2, hi, cellsOf_info hi]
theorem qs_build {t : TypeId} {parts : Array (Nat × Operand)} {fs : Array Field} {z : List V} {ps : List (Nat × Nat × X)} (ho : o.op = .build t parts) (hu : P.underlying t = some (.struct fs)) (hz : zeroL P t = some z)
    (hps : cParts (fun i => match fs.toList[i]? with | some f => some (f.offset, P.cellsOf f.type) | none => none) parts.toList = some ps) (hall : (fs.toList.all fun f => (P.info? f.type).isSome) = true) : QS P o false (qBuild z ps) where
  run := fun {A σ K} h0 => by
    obtain ⟨it, zv, h1, h2, h3, h4, h5⟩ := zeroL_spec hz
    obtain ⟨l, h6, h7⟩ := fill_spec (S := (· ∈ o.op.operands)) hps (fun p hp => by
      simp only [ho, Op.operands, List.mem_toArray, List.mem_map]
      exact ⟨p, by simpa using hp, rfl⟩) (K := fun l => K (.ag l)) h0
    refine ⟨_, h6, fun {E B m h N a w} hR hh hA => ?_⟩
    obtain ⟨cells, h8, h9, h10, _⟩ := h7 m a zv.cells hA (h5 m) h4
    refine ⟨.agg cells, .ag _ cells.toList h9.len h9.at_ h10, ?_⟩
    have hb : P.built t (parts.map fun p => (p.1, a.eval p.2)).toList = some cells := by
      simp only [Program.built, h1, hu, h2, run_places_all _ hall]
      rw [← h8]
      have hfun : (fun x => ((fs.toList.map fun (f : Field) => (f.offset, P.cellsOf f.type)).toArray)[x]?) = (fun (i : Nat) => match fs.toList[i]? with | some (f : Field) => some (f.offset, P.cellsOf f.type) | none => none) := by
        funext i
        simp only [List.getElem?_toArray, List.getElem?_map]
        cases fs.toList[i]? <;> rfl
      rw [hfun, Array.toList_map]
    simp only [execOp, ho, Sem.run_bind, run_build w t _ cells hb, Result.andThen_ok, Sem.run_pure]

/-! ### What makes a new block -/
structure AS (P : Program) (o : Oper) (f : HA) : Prop where
  run : ∀ {A : Fr} {K : AO → Mk → Bool}, f A K = true → ∃ ob mk, K ob mk = true ∧ ∀ {m a w}, AG (· ∈ o.op.operands) m A a →
    ∃ x pl v', (execOp a.eval o).run P w = .ok (.value v') { w with heap := w.heap.push x } ∧ pl.blk = w.heap.size ∧ OR m ob pl x ∧ ∀ m' id, m' id = some pl → VR m' (mk.val id) v'
/-- A block of cells just made. -/
theorem OR.fresh {l : List V} {c : Array Value} (h : VRs m l c.toList) (hl : Leafs l) (b sz : Nat) (t : TypeId) : OR m (.cells sz l) ⟨b, 0, c.size, sz⟩ (.cells c t) :=
  .cells sz l _ c t (0, 0) rfl rfl (by have := h.len; simp at this; simp [this]) (fun i v hv => by
    obtain ⟨v', h1, h2⟩ := h.get hv
    exact ⟨v', by simpa using h1, h2⟩) hl (.inl rfl)
theorem as_mk {t : TypeId} {z : List V} (ho : o.op = .alloc t) (hz : zeroL P t = some z) : AS P o (aMk (P.cellsOf t) z) where
  run := fun {A K} h0 => by
    obtain ⟨it, zv, h1, h2, h3, h4, h5⟩ := zeroL_spec hz
    refine ⟨_, _, h0, fun {m a w} hA => ⟨.cells zv.cells t, ⟨w.heap.size, 0, zv.cells.size, P.cellsOf t⟩, .pointer (some ⟨w.heap.size, 0, none⟩), ?_, rfl, OR.fresh (h5 m) h4 _ _ _, fun m' id hm => .p id 0 _ hm⟩⟩
    simp [execOp, ho, Instr.alloc, zeroValue, typeInfo, h1, h2, newVar, newRow]
theorem as_box {t : TypeId} {x : Operand} {X : Ev.X} (ho : o.op = .box t x) (hx : cX x = some X) : AS P o (aBox (P.cellsOf t) X) where
  run := fun {A K} h0 => by
    obtain ⟨v, h1, h2⟩ := xv_spec (S := (· ∈ o.op.operands)) hx (by simp [ho, Op.operands]) (K := fun v => cellsK v fun cs => yes (Nat.beq (lenK cs) (P.cellsOf t)) (K (.cells (P.cellsOf t) cs) .ptr)) h0
    obtain ⟨h3, h4⟩ := cellsK_spec h1
    rw [yes_iff] at h4
    refine ⟨_, _, h4.2, fun {m a w} hA => ?_⟩
    obtain ⟨hv, hl⟩ := (h2 m a hA).cells h3
    refine ⟨.cells (a.eval x).cells t, ⟨w.heap.size, 0, (a.eval x).cells.size, P.cellsOf t⟩, .pointer (some ⟨w.heap.size, 0, none⟩), ?_, rfl, OR.fresh hv hl _ _ _, fun m' id hm => .p id 0 _ hm⟩
    simp [execOp, ho, Instr.box, newVar, newRow]
theorem VR.slice_fresh {m' : Mp} {id : Pa} {n b s sz : Nat} (hm : m' id = some ⟨b, 0, s, sz⟩) (hs : n * sz ≤ s) : VR m' (Mk.val id (.slice n)) (.slice (some ⟨b, 0, none⟩) n n) :=
  .sl id 0 n n _ 0 n hm (Nat.le_refl _) (Nat.le_refl _) (.inl rfl) (by simpa using hs)
theorem as_bsl {t e : TypeId} {len : Nat} {parts : Array (Nat × Operand)} {z : List V} {ps : List (Nat × Nat × X)} (ho : o.op = .buildSlice t len parts) (hu : P.underlying t = some (.slice e)) (hz : zeroL P e = some z)
    (hps : cParts (fun i => some (i * P.cellsOf e, P.cellsOf e)) parts.toList = some ps) (hle : Nat.ble (len * P.cellsOf e) 1000 = true) (hpos : Nat.blt 0 (P.cellsOf e) = true) : AS P o (aBsl (P.cellsOf e) len z ps) where
  run := fun {A K} h0 => by
    obtain ⟨it, zv, h1, h2, h3, h4, h5⟩ := zeroL_spec hz
    have h0 : repK z len (fun l => fillK ps A l fun l => K (.cells (P.cellsOf e) l) (.slice len)) = true := h0
    rw [repK_eq] at h0
    obtain ⟨l, h6, h7⟩ := fill_spec (S := (· ∈ o.op.operands)) hps (fun p hp => by
      simp only [ho, Op.operands, List.mem_toArray, List.mem_map]
      exact ⟨p, by simpa using hp, rfl⟩) (K := fun l => K (.cells (P.cellsOf e) l) (.slice len)) h0
    refine ⟨_, _, h6, fun {m a w} hA => ?_⟩
    have hsz : zv.cells.size = P.cellsOf e := by rw [cellsOf_info h1, ← h3, Array.length_toList]
    obtain ⟨cells, h8, h9, h10, h11⟩ := h7 m a _ hA ((h5 m).rep len) (rep_leafs h4 len)
    have hle : len * P.cellsOf e ≤ 1000 := by simpa using hle
    have hpos : 0 < P.cellsOf e := by simpa using hpos
    have h11' : cells.size = len * P.cellsOf e := by rw [h11, hsz]; simp
    refine ⟨.cells cells e, ⟨w.heap.size, 0, cells.size, P.cellsOf e⟩, .slice (some ⟨w.heap.size, 0, none⟩) len len, ?_, rfl, OR.fresh h9 h10 _ _ _, fun m' id hm => VR.slice_fresh hm (by omega)⟩
    have hn : ¬ (len * P.cellsOf e > 2 ^ 24) := by omega
    rw [hsz] at h8
    by_cases hl0 : len * P.cellsOf e = 0
    · have hl : len = 0 := by
        rcases Nat.mul_eq_zero.1 hl0 with e | e
        · exact e
        · omega
      subst hl
      have hr0 : Array.range 0 = #[] := rfl
      have h8' : Instr.fill (fun i => some (i * P.cellsOf e, P.cellsOf e)) #[] (parts.map fun p => (p.1, a.eval p.2)).toList = some cells := by
        rw [← h8, Array.toList_map, Nat.zero_mul, hr0, Array.map_empty]
      simp [execOp, ho, Instr.buildSlice, run_underlying hu, run_sizeOf h1, hr0, newRow]
      simp only [Array.toList_map] at h8'
      simp [h8']
    · have h8' : Instr.fill (fun i => some (i * P.cellsOf e, P.cellsOf e)) ((Array.range (len * P.cellsOf e)).map (zv.cells[· % zv.cells.size]!)) (parts.map fun p => (p.1, a.eval p.2)).toList = some cells := by
        rw [← h8, Array.toList_map, hsz]
      simp only [execOp, ho, Instr.buildSlice, Sem.run_bind, run_underlying hu, run_sizeOf h1, Result.andThen_ok, Sem.run_ite, if_neg hn, if_neg hl0, zeroValue, typeInfo, run_program, h1, Sem.run_pure, h2, h8', newRow, run_newObj]
theorem as_map {t : TypeId} (ho : o.op = .makeMap t none) : AS P o aMap where
  run := fun {A K} h0 => by
    refine ⟨_, _, h0, fun {m a w} hA => ⟨.map #[] 0, ⟨w.heap.size, 0, 0, 0⟩, .map (some w.heap.size), ?_, rfl, .map [] _ #[] 0 rfl (by simp), fun m' id hm => .mp id _ hm⟩⟩
    simp [execOp, ho, Instr.makeMap]
theorem as_chan {t e : TypeId} {d : ChanDir} {x : Operand} {X : Ev.X} (ho : o.op = .makeChan t x) (hx : cX x = some X) (hu : P.underlying t = some (.chan d e)) (hb : Nat.ble (P.bytesOf e) 1000 = true) (hi : (P.info? e).isSome = true) : AS P o (aChan X) where
  run := fun {A K} h0 => by
    obtain ⟨v, h1, h2⟩ := xv_spec (S := (· ∈ o.op.operands)) hx (by simp [ho, Op.operands]) (K := fun v => asN v fun _ n => yes (Nat.ble n 1000) (K (.chan n []) .chan)) h0
    obtain ⟨k, n, rfl, h3⟩ := asN_spec h1
    rw [yes_iff] at h3
    have hn : n ≤ 1000 := by simpa using h3.1
    refine ⟨_, _, h3.2, fun {m a w} hA => ⟨.chan n #[] false 0 0 false, ⟨w.heap.size, 0, 0, 0⟩, .chan (some w.heap.size), ?_, rfl, .chan n [] _ [] 0 0 VRs.nil, fun m' id hm => .ch id _ hm⟩⟩
    obtain ⟨i, hi⟩ := Option.isSome_iff_exists.1 hi
    have hb : i.bytes ≤ 1000 := by rw [← bytesOf_info hi]; simpa using hb
    have hg := (h2 m a hA).i_inv
    have hm : i.bytes * n ≤ 1000 * 1000 := Nat.mul_le_mul hb hn
    have c1 : ¬ ((n : Int) < 0 ∨ (n : Int) > IntKind.i64.max ∨ (i.bytes : Int) * n > 2 ^ 48 - 112) := by
      have : ((i.bytes * n : Nat) : Int) = (i.bytes : Int) * n := by push_cast; rfl
      simp [IntKind.max, IntKind.signed, IntKind.bits]; omega
    simp only [execOp, ho, hg, Instr.makeChan, asInt, asIntOf, Sem.run_bind, Sem.run_pure, Result.andThen_ok, run_underlying hu, typeInfo, run_program, hi, Sem.run_ite, Int.ofNat_eq_natCast, if_neg c1, run_newObj, Int.toNat_natCast]
theorem as_mks {t e : TypeId} {x y : Operand} {X Y : Ev.X} {z : List V} (ho : o.op = .makeSlice t x y) (hx : cX x = some X) (hy : cX y = some Y) (hu : P.underlying t = some (.slice e)) (hz : zeroL P e = some z) (hb : Nat.ble (P.bytesOf e) 1000 = true)
    (hpos : Nat.blt 0 (P.cellsOf e) = true) : AS P o (aMks (P.cellsOf e) z X Y) where
  run := fun {A K} h0 => by
    obtain ⟨it, zv, h1, h2, h3, h4, h5⟩ := zeroL_spec hz
    obtain ⟨v, g1, g2⟩ := xv_spec (S := (· ∈ o.op.operands)) hx (by simp [ho, Op.operands]) (K := fun v => asN v fun _ l => xv Y A fun u => asN u fun _ c => yes (Nat.beq l c) (yes (Nat.ble c 10000) (repK z c fun cs => K (.cells (P.cellsOf e) cs) (.slice c)))) h0
    obtain ⟨k, l, rfl, g3⟩ := asN_spec g1
    obtain ⟨u, g4, g5⟩ := xv_spec (S := (· ∈ o.op.operands)) hy (by simp [ho, Op.operands]) (K := fun u => asN u fun _ c => yes (Nat.beq l c) (yes (Nat.ble c 10000) (repK z c fun cs => K (.cells (P.cellsOf e) cs) (.slice c)))) g3
    obtain ⟨j, c, rfl, g6⟩ := asN_spec g4
    rw [yes_iff, yes_iff, repK_eq] at g6
    obtain ⟨g7, g8, g9⟩ := g6
    obtain rfl := Nat.eq_of_beq_eq_true g7
    have hn : l ≤ 10000 := by simpa using g8
    refine ⟨_, _, g9, fun {m a w} hA => ?_⟩
    have hsz : zv.cells.size = P.cellsOf e := by rw [cellsOf_info h1, ← h3, Array.length_toList]
    have hv := (h5 m).rep l
    have hb : it.bytes ≤ 1000 := by rw [← bytesOf_info h1]; simpa using hb
    have hpos : 0 < P.cellsOf e := by simpa using hpos
    have hm : it.bytes * l ≤ 1000 * 10000 := Nat.mul_le_mul hb hn
    have hw : IntKind.i64.wrap (l : Int) = l := wrap_lim (by simp [lim]; omega)
    refine ⟨.cells ((Array.range (l * zv.cells.size)).map (zv.cells[· % zv.cells.size]!)) e, ⟨w.heap.size, 0, _, P.cellsOf e⟩, .slice (some ⟨w.heap.size, 0, none⟩) l l, ?_, rfl, OR.fresh hv (rep_leafs h4 l) _ _ _, fun m' id hm => VR.slice_fresh hm (by simp [hsz])⟩
    have e1 := (g2 m a hA).i_inv
    have e2 := (g5 m a hA).i_inv
    have c0 : ((it.bytes * l : Nat) : Int) = (it.bytes : Int) * l := by push_cast; rfl
    have c1 : ((decide ((l : Int) < 0) || decide ((it.bytes : Int) * l > 2 ^ 48)) || decide ((l : Int) < 0) || decide ((l : Int) > l)) = false := by
      simp; omega
    by_cases hl0 : l * P.cellsOf e = 0
    · have hl : l = 0 := by
        rcases Nat.mul_eq_zero.1 hl0 with e | e
        · exact e
        · omega
      subst hl
      have hr0 : Array.range 0 = #[] := rfl
      simp [execOp, ho, e1, e2, Instr.makeSlice, asInt, asIntOf, run_underlying hu, typeInfo, h1, newRow, run_sizeOf h1, IntKind.wrap, IntKind.bits, IntKind.signed, hr0]
    · simp only [execOp, ho, e1, e2, Instr.makeSlice, asInt, asIntOf, Sem.run_bind, Sem.run_pure, Result.andThen_ok, run_underlying hu, typeInfo, run_program, h1, Sem.run_ite, Int.ofNat_eq_natCast, hw, c1, Bool.false_eq_true, if_false,
        run_askRoom, run_sizeOf h1, Int.toNat_natCast, if_neg hl0, zeroValue, h2, newRow, run_newObj, hsz]
end
end Go.Ev
namespace Go.Ev
open Go

/-! ### What an operation does, in steps -/
def Does (P : Program) (o : Oper) (a : Act) (w : World) (Φ : Value → World → Prop) : Prop :=
  ∀ (b : Frame) (ops : Array Oper) (i : Nat) (rest : List Nat) (k : List Item) (cs : List Frame), ops[i]? = some o → Region.wanted o (yielded ops a.tmps) = true →
    ∃ v w', Φ v w' ∧ Steps P (lone (b.at a (.inRegion ops (i :: rest) :: k)) cs w) (lone (b.at (a.put o.dst v) (.inRegion ops rest :: k)) cs w')
section
variable {P : Program} {o : Oper} {a : Act} {w w' : World} {Φ Φ' : Value → World → Prop}
theorem Does.mono (h : Does P o a w Φ) (hΦ : ∀ v w', Φ v w' → Φ' v w') : Does P o a w Φ' := fun b ops i rest k cs ho hw =>
  let ⟨v, w', h1, h2⟩ := h b ops i rest k cs ho hw
  ⟨v, w', hΦ _ _ h1, h2⟩
theorem finish_op (b : Frame) (a : Act) {ops : Array Oper} {i : Nat} (ho : ops[i]? = some o) (rest : List Nat) (k : List Item) (v : Value) :
    (b.at a (.inRegion ops (i :: rest) :: k)).finish v = b.at (a.put o.dst v) (.inRegion ops rest :: k) := by
  rw [Frame.finish_at, ho]; rfl
theorem Does.value {v : Value} (hr : (execOp a.eval o).run P w = .ok (.value v) w') (h : Φ v w') : Does P o a w Φ := fun b ops i rest k cs ho hw => by
  refine ⟨v, w', h, .one (step_lone_go ?_)⟩
  rw [stepG_op ho hw, ← finish_op b a ho]; simp [stepG.apply, hr]
theorem Does.skip (hr : (execOp a.eval o).run P w = .ok .skip w') (h : Φ undef w') : Does P o a w Φ := fun b ops i rest k cs ho hw => by
  refine ⟨undef, w', h, .one (step_lone_go ?_)⟩
  rw [stepG_op ho hw, ← finish_op b a ho]; simp [stepG.apply, hr]
theorem Does.enter {f : FuncId} {args : Array Value} (hr : (execOp a.eval o).run P w = .ok (.enter f args) w') (h : Calls P f args w' fun e w'' => ∃ v, e = .returned v ∧ Φ v w'') : Does P o a w Φ := fun b ops i rest k cs ho hw => by
  obtain ⟨e, w'', fr, ⟨v, rfl, hΦ⟩, hsteps, _, hleave⟩ := h (b.at a (.inRegion ops (i :: rest) :: k) :: cs)
  have henter : step P (lone (b.at a (.inRegion ops (i :: rest) :: k)) cs w) = .next (lone (Frame.enter P f args .normal) (b.at a (.inRegion ops (i :: rest) :: k) :: cs) w') :=
    step_lone_go (by rw [stepG_op ho hw]; simp [stepG.apply, hr, Frame.at])
  refine ⟨v, w'', hΦ, .head henter (Steps.trans hsteps (.one ?_))⟩
  rw [← finish_op b a ho]; exact step_leave_returned hleave
/-- A select of one case, in one step. -/
theorem Does.select {c : CommCase} {v : Value} (hr : (execOp a.eval o).run P w = .ok (.comm #[c] false .select) w)
    (hs : ∀ (fr : Frame) (cs : List Frame) es, stepG P true (Conc.G fr cs) w = .comm (Conc.G fr cs) #[c] false .select w es → step P (Conc.solo (Conc.G fr cs) w) = .next (Conc.solo (Conc.G (fr.finish v) cs) w')) (h : Φ v w') : Does P o a w Φ := fun b ops i rest k cs ho hw => by
  have hg := stepG_op (P := P) (b := b) (k := k) (cs := cs) (w := w) (rest := rest) ho hw
  have : ∃ es, stepG P true (Conc.G (b.at a (.inRegion ops (i :: rest) :: k)) cs) w = .comm (Conc.G (b.at a (.inRegion ops (i :: rest) :: k)) cs) #[c] false .select w es := by
    have : ∃ es, stepG.apply P true (b.at a (.inRegion ops (i :: rest) :: k)) cs none (execOp a.eval o) w = .comm (Conc.G (b.at a (.inRegion ops (i :: rest) :: k)) cs) #[c] false .select w es := by
      simp only [stepG.apply, Sem.runT_eq, hr, if_true]
      exact ⟨_, rfl⟩
    exact this.imp fun es e => hg.trans e
  obtain ⟨es, he⟩ := this
  refine ⟨v, w', h, .one ?_⟩
  have := hs _ _ _ he
  rw [finish_op b a ho] at this
  exact this
end

/-! ### The names given so far; calls -/
/-- A map grows, but not where names are kept for others. -/
def Ext (B : Nat) (m m' : Mp) : Prop := m.le m' ∧ ∀ id : Pa, B ≤ id.toNat → m' id = m id
theorem Ext.refl {B : Nat} {m : Mp} : Ext B m m := ⟨m.le_refl, fun _ _ => rfl⟩
theorem Ext.trans {B : Nat} {m m' m'' : Mp} (h : Ext B m m') (k : Ext B m' m'') : Ext B m m'' := ⟨Mp.le_trans h.1 k.1, fun id hid => (k.2 id hid).trans (h.2 id hid)⟩
theorem Ext.add {B : Nat} {m : Mp} {id : Pa} (pl : Pl) (h : m id = none) (hlt : id.toNat < B) : Ext B m (m.add id pl) :=
  ⟨Mp.le_add pl h, fun q hq => by unfold Mp.add; rw [if_neg (fun e => by subst e; omega)]⟩
theorem Ext.wider {B B' : Nat} {m m' : Mp} (h : Ext B m m') (hB : B ≤ B') : Ext B' m m' := ⟨h.1, fun id hid => h.2 id (Nat.le_trans hB hid)⟩
def St.N (σ : St) : Nat := σ.next.toNat
def CallSpec (P : Program) (call : CallF) : Prop := ∀ {f : FuncId} {args : List V} {σ : St} {K : V → St → Bool}, call f args σ K = true →
  (∃ fn, P.funcs[f]? = some fn ∧ fn.body.isSome = true) ∧ ∃ v σ', K v σ' = true ∧ σ.N ≤ σ'.N ∧ ∀ {E B m args' w}, σ'.N ≤ B → R E B m σ.heap.get σ.N w → VRs m args args' →
    Calls P f ⟨args'⟩ w fun e w' => ∃ v', e = .returned v' ∧ ∃ m', Ext B m m' ∧ VR m' v v' ∧ R E B m' σ'.heap.get σ'.N w'
structure MS (P : Program) (o : Oper) (f : HM) : Prop where
  run : ∀ {call : CallF}, CallSpec P call → ∀ {A : Fr} {σ : St} {K : V → St → Bool}, f call A σ K = true → ∃ v σ', K v σ' = true ∧ σ.N ≤ σ'.N ∧
    ∀ {E B m a w}, σ'.N ≤ B → R E B m σ.heap.get σ.N w → AG (· ∈ o.op.operands) m A a → Does P o a w fun v' w' => ∃ m', Ext B m m' ∧ VR m' v v' ∧ R E B m' σ'.heap.get σ'.N w'

/-! ### Cells that are written -/
section
variable {E : Env} {B : Nat} {m : Mp} {h : Pa → Option AO} {N : Nat} {w w' w'' : World} {P : Program} {o : Oper}
theorem At.trans {b : Nat} {x y : Obj} (h : At w b x w') (h' : At w' b y w'') : At w b y w'' :=
  ⟨h'.os.trans h.os, h'.tape.trans h.tape, h'.output.trans h.output, h'.size.trans h.size, h'.here, fun k hk => (h'.other k hk).trans (h.other k hk)⟩
theorem At.refl {b : Nat} {x : Obj} (h : w.heap[b]? = some x) : At w b x w := ⟨rfl, rfl, rfl, rfl, h, fun _ _ => rfl⟩
theorem At.setRow {b : Nat} {c c' : Array Value} {e : TypeId} {fz : Nat × Nat} (h : w.heap[b]? = some (.cells c e fz)) : At w b (.cells c' e fz) (w.setRow b c') :=
  ⟨rfl, rfl, rfl, setRow_size _ _ _, setRow_heap _ _ _ _ _ _ h, fun k hk => setRow_other _ _ _ _ hk⟩
theorem setCells_at {b : Nat} {e : TypeId} {fz : Nat × Nat} : ∀ (vs : List Value) (o : Nat) (c : Array Value) (w : World), w.heap[b]? = some (.cells c e fz) →
    ∃ c', At w b (.cells c' e fz) (w.setCells b o vs) ∧ c'.size = c.size ∧ ∀ k, c'[k]? = if o ≤ k ∧ k < o + vs.length ∧ k < c.size then vs[k - o]? else c[k]?
  | [], o, c, w, h => ⟨c, At.refl h, rfl, fun k => by rw [if_neg (by simp; omega)]⟩
  | v :: vs, o, c, w, h => by
    have h1 : At w b (.cells (c.setIfInBounds o v) e fz) (w.setCell ⟨b, o, none⟩ v) := by rw [setCell_eq_setRow w b o c e fz v h]; exact At.setRow h
    obtain ⟨c', h2, h3, h4⟩ := setCells_at vs (o + 1) _ _ h1.here
    refine ⟨c', h1.trans h2, by rw [h3]; simp, fun k => ?_⟩
    rw [h4]
    simp only [Array.size_setIfInBounds, List.length_cons]
    by_cases hk : o = k
    · subst hk
      rw [if_neg (by omega)]
      by_cases hs : o < c.size
      · rw [if_pos ⟨Nat.le_refl _, by omega, hs⟩]; simp [hs]
      · rw [if_neg (by omega)]; simp [hs]
    · by_cases hin : o + 1 ≤ k ∧ k < o + 1 + vs.length ∧ k < c.size
      · rw [if_pos hin, if_pos (by omega)]
        have e : k - o = (k - (o + 1)) + 1 := by omega
        rw [e, List.getElem?_cons_succ]
      · rw [if_neg hin, if_neg (by omega), Array.getElem?_setIfInBounds_ne hk]
theorem frozen_no {b : Nat} {c : Array Value} {e : TypeId} {fz : Nat × Nat} (h : w.heap[b]? = some (.cells c e fz)) (hf : fz.1 = fz.2 ∨ c.size ≤ fz.1) {k : Nat} (hk : k < c.size) : w.frozen? ⟨b, k, none⟩ = false := by
  simp only [World.frozen?, h, Bool.and_eq_false_iff, decide_eq_false_iff_not]; omega
theorem cell_some {b : Nat} {c : Array Value} {e : TypeId} {fz : Nat × Nat} (h : w.heap[b]? = some (.cells c e fz)) {k : Nat} (hk : k < c.size) : (w.cell? ⟨b, k, none⟩).isSome = true := by
  simp [World.cell?, h, hk]
theorem Leafs.one {cs : List V} {cs' : List Value} (hl : Leafs cs) (h : VRs m cs cs') : ∀ v ∈ cs', v.oneCell' = true := fun v hv => by
  obtain ⟨i, hi, rfl⟩ := List.mem_iff_getElem.1 hv
  have hi' : i < cs.length := h.len ▸ hi
  exact leaf_one (h.at_ i _ _ (List.getElem?_eq_getElem hi') (List.getElem?_eq_getElem hi)) (hl i _ (List.getElem?_eq_getElem hi'))
/-- Some of a block's cells are written. -/
theorem OR.write {sz : Nat} {cs vs : List V} {pl : Pl} {x : Obj} (hx : OR m (.cells sz cs) pl x) (hw : w.heap[pl.blk]? = some x) {vs' : List Value} (hv : VRs m vs vs') (hl : Leafs vs) {off : Nat} (ho : off + vs.length ≤ cs.length) :
    ∃ x', At w pl.blk x' (w.setCells pl.blk (pl.base + off) vs') ∧ OR m (.cells sz (cs.take off ++ (vs ++ cs.drop (off + vs.length)))) pl x' ∧
      (∀ j, j < vs'.length → (w.cell? ⟨pl.blk, pl.base + off + j, none⟩).isSome = true) ∧ (∀ j, j < vs'.length → w.frozen? ⟨pl.blk, pl.base + off + j, none⟩ = false) := by
  cases hx with
  | cells _ _ _ c elem fz hs hn hb h hlf hf =>
    obtain ⟨c', h1, h2, h3⟩ := setCells_at vs' (pl.base + off) c w hw
    have hlen := hv.len
    refine ⟨_, h1, .cells sz _ pl c' elem fz hs (hn.trans h2.symm) (by rw [over_len _ _ _ ho]; omega) (fun i v hv2 => ?_) (hlf.over hl off) (by omega), fun j hj => cell_some hw (by omega), fun j hj => frozen_no hw hf (by omega)⟩
    rw [over_get _ _ _ ho] at hv2
    rw [Array.getElem?_toList, h3]
    by_cases c1 : i < off
    · rw [if_pos c1] at hv2
      rw [if_neg (by omega)]
      obtain ⟨v', k1, k2⟩ := h i v hv2
      exact ⟨v', by simpa using k1, k2⟩
    · rw [if_neg c1] at hv2
      by_cases c2 : i < off + vs.length
      · rw [if_pos c2] at hv2
        rw [if_pos (by omega)]
        obtain ⟨v', k1, k2⟩ := hv.get hv2
        exact ⟨v', by rw [← k1]; congr 1; omega, k2⟩
      · rw [if_neg c2] at hv2
        rw [if_neg (by omega)]
        obtain ⟨v', k1, k2⟩ := h i v hv2
        exact ⟨v', by simpa using k1, k2⟩
theorem upd_eq {σ σ' : St} {id : Pa} {x : Option AO} (h : ∀ q, σ'.heap.get q = if q = id then x else σ.heap.get q) : σ'.heap.get = upd σ.heap.get id x := funext h
theorem put_spec {σ : St} {id : Pa} {x : Option AO} {K : St → Bool} (h : σ.put id x K = true) : ∃ σ', K σ' = true ∧ σ'.N = σ.N ∧ σ'.heap.get = upd σ.heap.get id x ∧ σ'.next = σ.next := by
  obtain ⟨u, h1, h2⟩ := T.setF_spec id (K := fun h => K ⟨h, σ.next⟩) h
  exact ⟨_, h1, rfl, funext h2, rfl⟩
theorem stN_spec {σ : St} {id : Pa} {off : Nat} {vs : List V} {K : St → Bool} (h : stN σ id off vs K = true) :
    ∃ σ' sz cs, K σ' = true ∧ σ'.N = σ.N ∧ σ.heap.get id = some (.cells sz cs) ∧ off + vs.length ≤ cs.length ∧ σ'.heap.get = upd σ.heap.get id (some (.cells sz (cs.take off ++ (vs ++ cs.drop (off + vs.length))))) := by
  obtain ⟨ob, h1, h2⟩ := T.getK_spec id (t := σ.heap) h
  obtain ⟨sz, cs, rfl, h3⟩ := asCells_spec h2
  obtain ⟨h4, h5⟩ := overAtK_spec _ _ h3
  obtain ⟨σ', h6, h7, h8, _⟩ := put_spec h5
  exact ⟨σ', sz, cs, h6, h7, h1, h4, h8⟩
/-- A store's cells. -/
theorem R.store {sz : Nat} {cs vs : List V} {id : Pa} {pl : Pl} (hR : R E B m h N w) (ho : h id = some (.cells sz cs)) (hm : m id = some pl) {vs' : List Value} (hv : VRs m vs vs') (hl : Leafs vs) {off : Nat} (hle : off + vs.length ≤ cs.length) :
    R E B m (upd h id (some (.cells sz (cs.take off ++ (vs ++ cs.drop (off + vs.length)))))) N (w.setCells pl.blk (pl.base + off) vs') ∧
      (storeCells ⟨pl.blk, pl.base + off, none⟩ vs').run P w = .ok () (w.setCells pl.blk (pl.base + off) vs') := by
  obtain ⟨x, hw, hx⟩ := hR.read ho hm
  obtain ⟨x', h1, h2, h3, h4⟩ := hx.write hw hv hl hle
  refine ⟨hR.write ho hm h1 h2, ?_⟩
  have := run_storeCells_cells (P := P) pl.blk (pl.base + off) vs' 0 w (by simpa using h3) (by simpa using h4) (hl.one hv)
  simpa using this
theorem ms_st {t : TypeId} {x y : Operand} {X Y : Ev.X} (ho : o.op = .store t x y) (hx : cX x = some X) (hy : cX y = some Y) (hi : (P.info? t).isSome = true) : MS P o (mSt (P.cellsOf t) X Y) where
  run := fun {call} _ {A σ K} h0 => by
    obtain ⟨v, h1, h2⟩ := xv_spec (S := (· ∈ o.op.operands)) hx (by simp [ho, Op.operands])
      (K := fun a => asP a fun id o => xv Y A fun v => cellsK v fun cs => yes (Nat.beq (lenK cs) (P.cellsOf t)) (stN σ id o cs fun σ => K (.tu []) σ)) h0
    obtain ⟨id, off, rfl, h3⟩ := asP_spec h1
    obtain ⟨v, h4, h5⟩ := xv_spec (S := (· ∈ o.op.operands)) hy (by simp [ho, Op.operands])
      (K := fun v => cellsK v fun cs => yes (Nat.beq (lenK cs) (P.cellsOf t)) (stN σ id off cs fun σ => K (.tu []) σ)) h3
    obtain ⟨h6, h7⟩ := cellsK_spec h4
    rw [yes_iff, lenK_eq] at h7
    obtain ⟨h8, h9⟩ := h7
    obtain ⟨σ', sz, cs, h10, h11, h12, h13, h14⟩ := stN_spec h9
    refine ⟨_, σ', h10, by omega, fun {E B m a w} hB hR hA => ?_⟩
    obtain ⟨pl, hm, hg⟩ := (h2 m a hA).p_inv
    obtain ⟨hv, hl⟩ := (h5 m a hA).cells h6
    obtain ⟨h15, h16⟩ := hR.store (P := P) h12 hm hv hl h13
    obtain ⟨i, hi⟩ := Option.isSome_iff_exists.1 hi
    have hsz : (a.eval y).cells.size = P.cellsOf t := by
      rw [← Nat.eq_of_beq_eq_true h8, hv.len, Array.length_toList]
    refine Does.skip (w' := w.setCells pl.blk (pl.base + off) (a.eval y).cells.toList) ?_ ⟨m, Ext.refl, .tu [] [] rfl (by simp), by rw [h14, h11]; exact h15⟩
    simp only [execOp, ho, hg, Instr.storeAt, Instr.sureAddr, storeVar, Sem.run_bind, Sem.run_pure, Result.andThen_ok, run_sizeOf hi, hsz, ne_eq, not_true_eq_false, if_false, h16]
end
end Go.Ev
