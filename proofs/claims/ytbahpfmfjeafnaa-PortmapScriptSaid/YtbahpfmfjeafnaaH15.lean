/- PortmapScript's own row of places: as it lies; its tests; what keep leaves of it. -/
import Derived.Test.YtbahpfmfjeafnaaH13
namespace Go.Proofs.Ytbahpfmfjeafnaa.PA
open Go.RowKit Go.Proofs.YtbahpfmfjeafnaaW.PrintWords Go.Proofs.YtbahpfmfjeafnaaW.PrintLast Go.Proofs.YtbahpfmfjeafnaaW.PrintMore
set_option linter.unusedVariables false
set_option linter.unusedSimpArgs false
theorem other16 (x : S53) (port : Int) (B : Nat) (w : World) (hc : w.cell? ⟨B, 0, none⟩ = some (.int .u64 port)) (hB : B < w.heap.size) :
    Calls Try.prog 16 #[vPl x, .pointer (some ⟨B, 0, none⟩)] w fun e w' => e = .returned (.bool (x.f0 != port)) ∧ Below w.heap.size w w' := by
  unfold vPl
  go_enter Try.func16, Try.ntmps16
  go_wp2
  go_ret
  exact ⟨rfl, (Below.refl _ _).alloc (Nat.le_refl _) _⟩
theorem other17 (x : S53) (port : Int) (B : Nat) (w : World) (hc : w.cell? ⟨B, 0, none⟩ = some (.int .u64 port)) (hB : B < w.heap.size) :
    Calls Try.prog 17 #[vPl x, .pointer (some ⟨B, 0, none⟩)] w fun e w' => e = .returned (.bool (x.f0 != port)) ∧ Below w.heap.size w w' := by
  unfold vPl
  go_enter Try.func17, Try.ntmps17
  go_wp2
  go_ret
  exact ⟨rfl, (Below.refl _ _).alloc (Nat.le_refl _) _⟩
theorem other18 (x : S53) (node : Int) (B : Nat) (w : World) (hc : w.cell? ⟨B, 0, none⟩ = some (.int .i64 node)) (hB : B < w.heap.size) :
    Calls Try.prog 18 #[vPl x, .pointer (some ⟨B, 0, none⟩)] w fun e w' => e = .returned (.bool (x.f1 != node)) ∧ Below w.heap.size w w' := by
  unfold vPl
  go_enter Try.func18, Try.ntmps18
  go_wp2
  go_ret
  exact ⟨rfl, (Below.refl _ _).alloc (Nat.le_refl _) _⟩
/-- the law's own row: the variable lies in block r, its places in the blocks of ok -/
def RowAt (w : World) (r : Nat) (ok : Nat → Prop) (xs : List S53) : Prop :=
  ∃ A c, w.heap[r]? = some (.cells #[.slice A xs.length c] 41 (0, 0)) ∧ xs.length ≤ c ∧ Kd.F k53 w ok A xs.length xs ∧ (∀ k, ok k → k ≠ r)
section
variable {w w1 : World} {r : Nat} {ok ok' : Nat → Prop} {xs : List S53}
theorem RowAt.lt (h : RowAt w r ok xs) : r < w.heap.size := by
  obtain ⟨A, c, hb, _⟩ := h
  exact blk_lt hb
theorem RowAt.step (h : RowAt w r ok xs) (hm : ∀ k, (k = r ∨ ok k) → k < w.heap.size → w1.heap[k]? = w.heap[k]?) : RowAt w1 r ok xs := by
  obtain ⟨A, c, hb, hl, hF, hne⟩ := h
  exact ⟨A, c, (hm r (.inl rfl) (blk_lt hb)).trans hb, hl, Kd.F_step hF (fun k hk hlt => hm k (.inr hk) hlt), hne⟩
theorem RowAt.below (h : RowAt w r ok xs) (hb : Below w.heap.size w w1) : RowAt w1 r ok xs := h.step (fun k _ hlt => hb.block k hlt)
theorem RowAt.bound (h : RowAt w r ok xs) : RowAt w r (fun k => ok k ∧ k < w.heap.size) xs := by
  obtain ⟨A, c, hb, hl, hF, hne⟩ := h
  exact ⟨A, c, hb, hl, Kd.F_bound hF, fun k hk => hne k hk.1⟩
theorem RowAt.mono (h : RowAt w r ok xs) (hok : ∀ k, ok k → ok' k) (hne : ∀ k, ok' k → k ≠ r) : RowAt w r ok' xs := by
  obtain ⟨A, c, hb, hl, hF, _⟩ := h
  exact ⟨A, c, hb, hl, Kd.F_mono hF hok, hne⟩
theorem RowAt.of_R {w0 : World} {v : Value} (hb : w1.heap[r]? = some (.cells #[v] 41 (0, 0))) (hR : Kd.R k53 44 w1 w0.heap.size (fun _ => True) v xs) (hg : r < w0.heap.size) : RowAt w1 r (fun k => w0.heap.size ≤ k) xs := by
  have h1 := Kd.R_mono (Kd.R_bound hR) (ok' := fun k => w0.heap.size ≤ k) (fun k hk => hk.2.1)
  obtain ⟨A, c, rfl⟩ := Kd.R_slice h1
  exact ⟨A, c, hb, (Kd.R_reads' h1).2.1, Kd.R_F h1, fun k hk => by omega⟩
end
theorem info44 : (Try.prog.info? 44).map (fun i => (i.zero, i.size, i.bytes)) = some (some (.agg #[(.int .u64 0), (.int .i64 0), (.int .i64 0)]), 3, 24) := by kernel_rfl
set_option maxHeartbeats 1600000 in
set_option maxRecDepth 100000 in
theorem keep15_16 (port : Int) (B : Nat)
    (w : World) (r : Nat) (ok : Nat → Prop) (xs : List S53) (h : RowAt w r ok xs)
    (hB : w.cell? ⟨B, 0, none⟩ = some (.int .u64 port)) (hBl : B < w.heap.size) (hn : xs.length ≤ 1000) :
    Calls Try.prog 15 #[.func (.func 16) #[] #[.pointer (some ⟨B, 0, none⟩)], .pointer (some ⟨r, 0, none⟩)] w fun e w' =>
      e = .returned (.tuple #[]) ∧ RowAt w' r (fun k => w.heap.size ≤ k) (xs.filter (fun x => x.f0 != port)) ∧ KeepBut w w' r none ∧ Below r w w' := by
  have hgl := h.lt
  obtain ⟨A, c, hb, hlc, hF, hne⟩ := h
  have hc0 : w.cell? ⟨r, 0, none⟩ = some (.slice A xs.length c) := (blk_cell hb 0).trans rfl
  have HC := Aside0.mk (Kd.F_now hF)
  have HBK := Aside0.mk hb
  clear hF hb hne hlc
  go_enter Try.func15, Try.ntmps15
  go_wp2
  go_loopw [3, 8] (fun v iv wr => ∃ k : Nat, k ≤ xs.length ∧ iv = .int .i64 k ∧ Aside0 (Kd.R k53 44 wr w.heap.size (fun _ => True) v ((xs.take k).filter (fun x => x.f0 != port))) ∧ Aside0 (Below w.heap.size w wr)) (fun _ iv _ => xs.length - (intOf iv).toNat)
  case atStart => exact ⟨0, Nat.zero_le _, rfl, ⟨Kd.R_nil _ _ _ _ _⟩, ⟨Below.refl _ _⟩⟩
  case round =>
    obtain ⟨k, hk, rfl, HR, HW⟩ := hrel
    by_cases hlt : k < xs.length
    · obtain ⟨ad, hA, hx0, hx1, hx2⟩ := at_T53 HC.out (k : Int) (by omega) (by omega)
      replace hx0 := pw_cell_below HW.out hx0
      replace hx1 := pw_cell_below HW.out hx1
      replace hx2 := pw_cell_below HW.out hx2
      cases hA
      rw [Int.toNat_natCast] at hx0 hx1 hx2
      have HX : Aside0 (rd_T53 xs (k : Int) = xs[k]) := ⟨by simp [rd_T53, List.getD_eq_getElem?_getD, List.getElem?_eq_getElem hlt]⟩
      generalize rd_T53 xs (k : Int) = x at hx0 hx1 hx2 HX
      have hBr := pw_cell_below HW.out hB
      have hsz := HW.out.size
      go_wp2_with (fail)
      have hpx := other16 x port B (wr.alloc (.cells #[.int .u64 x.f0, .int .i64 x.f1, .int .i64 x.f2] 44)) (by rw [World.cell?_alloc_past _ _ _ (by show B < wr.heap.size; omega)]; exact hBr) (by simp; omega)
      refine hpx.mono ?_
      clear hpx
      rintro e w2 ⟨rfl, HK2⟩
      have hb2 : w2.heap[wr.heap.size]? = some (.cells #[.int .u64 x.f0, .int .i64 x.f1, .int .i64 x.f2] 44 (0, 0)) := (HK2.block _ (by simp)).trans (by simpa using heap_alloc_new wr _)
      have y0 : w2.cell? ⟨wr.heap.size, 0, none⟩ = some (.int .u64 x.f0) := (blk_cell hb2 0).trans rfl
      have y1 : w2.cell? ⟨wr.heap.size, 1, none⟩ = some (.int .i64 x.f1) := (blk_cell hb2 1).trans rfl
      have y2 : w2.cell? ⟨wr.heap.size, 2, none⟩ = some (.int .i64 x.f2) := (blk_cell hb2 2).trans rfl
      have HWR : Aside0 (Below wr.heap.size wr w2) := ⟨((Below.refl _ wr).alloc (Nat.le_refl _) _).trans (HK2.mono (by simp))⟩
      have HW2 : Aside0 (Below w.heap.size w w2) := ⟨HW.out.trans (HWR.out.mono hsz)⟩
      have HR2 := Aside0.mk (Kd.R_below HR.out HWR.out)
      have hsz2 := HW2.out.size
      have HTK : Aside0 ((xs.take (k + 1)).filter (fun x => x.f0 != port) = (xs.take k).filter (fun x => x.f0 != port) ++ (if (x.f0 != port) = true then [x] else [])) := ⟨by
        rw [List.take_succ_eq_append_getElem hlt, List.filter_append, ← HX.out]
        congr 1
        simp [List.filter_cons]⟩
      have hle : ((xs.take k).filter (fun x => x.f0 != port)).length ≤ 1000 := Nat.le_trans (List.length_filter_le _ _) (by rw [List.length_take]; omega)
      clear hb2 HK2 HWR HR HW hBr hx0 hx1 hx2
      by_cases hp : (x.f0 != port) = true
      · rw [if_pos hp] at HTK
        rw [hp]
        generalize (xs.take k).filter (fun x => x.f0 != port) = zs at HTK hle HR2
        go_wp2_with (first | (at_builtin; refine Kd.R_append k53 (w0 := w) w.heap.size rfl (.tmp 15) (.tmp 17) 41 44 (.agg #[(.int .u64 0), (.int .i64 0), (.int .i64 0)]) 24 rfl Try.underlying41 info44 rfl (by decide) (by omega) u3 zs x [.int .u64 x.f0, .int .i64 x.f1, .int .i64 x.f2] (fun _ => True) (fun _ => False) rfl (by first | (go_simp; done) | (go_simp; rfl)) (k53_mkM _ _ _ x) (fun _ hk => hk.elim) (fun _ _ => trivial) HR2.out HW2.out hsz2 (by omega) ?_; intro v3 w3 ho hb hg hat; have HR3 := Aside0.mk ho; have HW3 := Aside0.mk hb; clear ho hb hg hat) | fail)
        go_roundw
        case rel => exact ⟨k + 1, hlt, by simp, ⟨by rw [HTK.out]; exact HR3.out⟩, HW3⟩
        case measure => simp [intOf]; omega
      · have hp' : (x.f0 != port) = false := by simpa using hp
        rw [if_neg hp, List.append_nil] at HTK
        rw [hp']
        go_wp2_with (fail)
        go_roundw
        case rel => exact ⟨k + 1, hlt, by simp, ⟨by rw [HTK.out]; exact HR2.out⟩, HW2⟩
        case measure => simp [intOf]; omega
    · obtain rfl : k = xs.length := by omega
      have hbr := (HW.out.block r hgl).trans HBK.out
      have hcr : wr.cell? ⟨r, 0, none⟩ = some (.slice A xs.length c) := (blk_cell hbr 0).trans rfl
      have hfr := blk_frozen hbr 0
      have HBR := Aside0.mk hbr
      have hsz := HW.out.size
      clear hbr
      obtain ⟨Aq, cq, rfl⟩ := Kd.R_slice HR.out
      have HRT := HR.out
      clear HR
      rw [List.take_length] at HRT ⊢
      generalize hnq : (xs.filter (fun x => x.f0 != port)).length = nq at HRT ⊢
      have HR := Aside0.mk HRT
      clear HRT hnq
      go_wp2_with (fail)
      have HS := Kd.R_set HR.out HBR.out (by intro q hq; simp [k53, Kd.iso, Kd.pair, Kd.int, Kd.scalar] at hq; omega) 0 (.slice Aq nq cq)
      go_end0
      refine ⟨rfl, RowAt.of_R (w0 := w) (v := .slice Aq nq cq) (by simpa using blk_set HBR.out 0 (.slice Aq nq cq)) HS hgl, KeepBut.set_ (KeepBut.of_below HW.out r none) _ _, (HW.out.mono (Nat.le_of_lt hgl)).setCell (p := ⟨r, 0, none⟩) (Nat.le_refl r) _⟩
set_option maxHeartbeats 1600000 in
set_option maxRecDepth 100000 in
theorem keep15_17 (port : Int) (B : Nat)
    (w : World) (r : Nat) (ok : Nat → Prop) (xs : List S53) (h : RowAt w r ok xs)
    (hB : w.cell? ⟨B, 0, none⟩ = some (.int .u64 port)) (hBl : B < w.heap.size) (hn : xs.length ≤ 1000) :
    Calls Try.prog 15 #[.func (.func 17) #[] #[.pointer (some ⟨B, 0, none⟩)], .pointer (some ⟨r, 0, none⟩)] w fun e w' =>
      e = .returned (.tuple #[]) ∧ RowAt w' r (fun k => w.heap.size ≤ k) (xs.filter (fun x => x.f0 != port)) ∧ KeepBut w w' r none ∧ Below r w w' := by
  have hgl := h.lt
  obtain ⟨A, c, hb, hlc, hF, hne⟩ := h
  have hc0 : w.cell? ⟨r, 0, none⟩ = some (.slice A xs.length c) := (blk_cell hb 0).trans rfl
  have HC := Aside0.mk (Kd.F_now hF)
  have HBK := Aside0.mk hb
  clear hF hb hne hlc
  go_enter Try.func15, Try.ntmps15
  go_wp2
  go_loopw [3, 8] (fun v iv wr => ∃ k : Nat, k ≤ xs.length ∧ iv = .int .i64 k ∧ Aside0 (Kd.R k53 44 wr w.heap.size (fun _ => True) v ((xs.take k).filter (fun x => x.f0 != port))) ∧ Aside0 (Below w.heap.size w wr)) (fun _ iv _ => xs.length - (intOf iv).toNat)
  case atStart => exact ⟨0, Nat.zero_le _, rfl, ⟨Kd.R_nil _ _ _ _ _⟩, ⟨Below.refl _ _⟩⟩
  case round =>
    obtain ⟨k, hk, rfl, HR, HW⟩ := hrel
    by_cases hlt : k < xs.length
    · obtain ⟨ad, hA, hx0, hx1, hx2⟩ := at_T53 HC.out (k : Int) (by omega) (by omega)
      replace hx0 := pw_cell_below HW.out hx0
      replace hx1 := pw_cell_below HW.out hx1
      replace hx2 := pw_cell_below HW.out hx2
      cases hA
      rw [Int.toNat_natCast] at hx0 hx1 hx2
      have HX : Aside0 (rd_T53 xs (k : Int) = xs[k]) := ⟨by simp [rd_T53, List.getD_eq_getElem?_getD, List.getElem?_eq_getElem hlt]⟩
      generalize rd_T53 xs (k : Int) = x at hx0 hx1 hx2 HX
      have hBr := pw_cell_below HW.out hB
      have hsz := HW.out.size
      go_wp2_with (fail)
      have hpx := other17 x port B (wr.alloc (.cells #[.int .u64 x.f0, .int .i64 x.f1, .int .i64 x.f2] 44)) (by rw [World.cell?_alloc_past _ _ _ (by show B < wr.heap.size; omega)]; exact hBr) (by simp; omega)
      refine hpx.mono ?_
      clear hpx
      rintro e w2 ⟨rfl, HK2⟩
      have hb2 : w2.heap[wr.heap.size]? = some (.cells #[.int .u64 x.f0, .int .i64 x.f1, .int .i64 x.f2] 44 (0, 0)) := (HK2.block _ (by simp)).trans (by simpa using heap_alloc_new wr _)
      have y0 : w2.cell? ⟨wr.heap.size, 0, none⟩ = some (.int .u64 x.f0) := (blk_cell hb2 0).trans rfl
      have y1 : w2.cell? ⟨wr.heap.size, 1, none⟩ = some (.int .i64 x.f1) := (blk_cell hb2 1).trans rfl
      have y2 : w2.cell? ⟨wr.heap.size, 2, none⟩ = some (.int .i64 x.f2) := (blk_cell hb2 2).trans rfl
      have HWR : Aside0 (Below wr.heap.size wr w2) := ⟨((Below.refl _ wr).alloc (Nat.le_refl _) _).trans (HK2.mono (by simp))⟩
      have HW2 : Aside0 (Below w.heap.size w w2) := ⟨HW.out.trans (HWR.out.mono hsz)⟩
      have HR2 := Aside0.mk (Kd.R_below HR.out HWR.out)
      have hsz2 := HW2.out.size
      have HTK : Aside0 ((xs.take (k + 1)).filter (fun x => x.f0 != port) = (xs.take k).filter (fun x => x.f0 != port) ++ (if (x.f0 != port) = true then [x] else [])) := ⟨by
        rw [List.take_succ_eq_append_getElem hlt, List.filter_append, ← HX.out]
        congr 1
        simp [List.filter_cons]⟩
      have hle : ((xs.take k).filter (fun x => x.f0 != port)).length ≤ 1000 := Nat.le_trans (List.length_filter_le _ _) (by rw [List.length_take]; omega)
      clear hb2 HK2 HWR HR HW hBr hx0 hx1 hx2
      by_cases hp : (x.f0 != port) = true
      · rw [if_pos hp] at HTK
        rw [hp]
        generalize (xs.take k).filter (fun x => x.f0 != port) = zs at HTK hle HR2
        go_wp2_with (first | (at_builtin; refine Kd.R_append k53 (w0 := w) w.heap.size rfl (.tmp 15) (.tmp 17) 41 44 (.agg #[(.int .u64 0), (.int .i64 0), (.int .i64 0)]) 24 rfl Try.underlying41 info44 rfl (by decide) (by omega) u3 zs x [.int .u64 x.f0, .int .i64 x.f1, .int .i64 x.f2] (fun _ => True) (fun _ => False) rfl (by first | (go_simp; done) | (go_simp; rfl)) (k53_mkM _ _ _ x) (fun _ hk => hk.elim) (fun _ _ => trivial) HR2.out HW2.out hsz2 (by omega) ?_; intro v3 w3 ho hb hg hat; have HR3 := Aside0.mk ho; have HW3 := Aside0.mk hb; clear ho hb hg hat) | fail)
        go_roundw
        case rel => exact ⟨k + 1, hlt, by simp, ⟨by rw [HTK.out]; exact HR3.out⟩, HW3⟩
        case measure => simp [intOf]; omega
      · have hp' : (x.f0 != port) = false := by simpa using hp
        rw [if_neg hp, List.append_nil] at HTK
        rw [hp']
        go_wp2_with (fail)
        go_roundw
        case rel => exact ⟨k + 1, hlt, by simp, ⟨by rw [HTK.out]; exact HR2.out⟩, HW2⟩
        case measure => simp [intOf]; omega
    · obtain rfl : k = xs.length := by omega
      have hbr := (HW.out.block r hgl).trans HBK.out
      have hcr : wr.cell? ⟨r, 0, none⟩ = some (.slice A xs.length c) := (blk_cell hbr 0).trans rfl
      have hfr := blk_frozen hbr 0
      have HBR := Aside0.mk hbr
      have hsz := HW.out.size
      clear hbr
      obtain ⟨Aq, cq, rfl⟩ := Kd.R_slice HR.out
      have HRT := HR.out
      clear HR
      rw [List.take_length] at HRT ⊢
      generalize hnq : (xs.filter (fun x => x.f0 != port)).length = nq at HRT ⊢
      have HR := Aside0.mk HRT
      clear HRT hnq
      go_wp2_with (fail)
      have HS := Kd.R_set HR.out HBR.out (by intro q hq; simp [k53, Kd.iso, Kd.pair, Kd.int, Kd.scalar] at hq; omega) 0 (.slice Aq nq cq)
      go_end0
      refine ⟨rfl, RowAt.of_R (w0 := w) (v := .slice Aq nq cq) (by simpa using blk_set HBR.out 0 (.slice Aq nq cq)) HS hgl, KeepBut.set_ (KeepBut.of_below HW.out r none) _ _, (HW.out.mono (Nat.le_of_lt hgl)).setCell (p := ⟨r, 0, none⟩) (Nat.le_refl r) _⟩
set_option maxHeartbeats 1600000 in
set_option maxRecDepth 100000 in
theorem keep15_18 (node : Int) (B : Nat)
    (w : World) (r : Nat) (ok : Nat → Prop) (xs : List S53) (h : RowAt w r ok xs)
    (hB : w.cell? ⟨B, 0, none⟩ = some (.int .i64 node)) (hBl : B < w.heap.size) (hn : xs.length ≤ 1000) :
    Calls Try.prog 15 #[.func (.func 18) #[] #[.pointer (some ⟨B, 0, none⟩)], .pointer (some ⟨r, 0, none⟩)] w fun e w' =>
      e = .returned (.tuple #[]) ∧ RowAt w' r (fun k => w.heap.size ≤ k) (xs.filter (fun x => x.f1 != node)) ∧ KeepBut w w' r none ∧ Below r w w' := by
  have hgl := h.lt
  obtain ⟨A, c, hb, hlc, hF, hne⟩ := h
  have hc0 : w.cell? ⟨r, 0, none⟩ = some (.slice A xs.length c) := (blk_cell hb 0).trans rfl
  have HC := Aside0.mk (Kd.F_now hF)
  have HBK := Aside0.mk hb
  clear hF hb hne hlc
  go_enter Try.func15, Try.ntmps15
  go_wp2
  go_loopw [3, 8] (fun v iv wr => ∃ k : Nat, k ≤ xs.length ∧ iv = .int .i64 k ∧ Aside0 (Kd.R k53 44 wr w.heap.size (fun _ => True) v ((xs.take k).filter (fun x => x.f1 != node))) ∧ Aside0 (Below w.heap.size w wr)) (fun _ iv _ => xs.length - (intOf iv).toNat)
  case atStart => exact ⟨0, Nat.zero_le _, rfl, ⟨Kd.R_nil _ _ _ _ _⟩, ⟨Below.refl _ _⟩⟩
  case round =>
    obtain ⟨k, hk, rfl, HR, HW⟩ := hrel
    by_cases hlt : k < xs.length
    · obtain ⟨ad, hA, hx0, hx1, hx2⟩ := at_T53 HC.out (k : Int) (by omega) (by omega)
      replace hx0 := pw_cell_below HW.out hx0
      replace hx1 := pw_cell_below HW.out hx1
      replace hx2 := pw_cell_below HW.out hx2
      cases hA
      rw [Int.toNat_natCast] at hx0 hx1 hx2
      have HX : Aside0 (rd_T53 xs (k : Int) = xs[k]) := ⟨by simp [rd_T53, List.getD_eq_getElem?_getD, List.getElem?_eq_getElem hlt]⟩
      generalize rd_T53 xs (k : Int) = x at hx0 hx1 hx2 HX
      have hBr := pw_cell_below HW.out hB
      have hsz := HW.out.size
      go_wp2_with (fail)
      have hpx := other18 x node B (wr.alloc (.cells #[.int .u64 x.f0, .int .i64 x.f1, .int .i64 x.f2] 44)) (by rw [World.cell?_alloc_past _ _ _ (by show B < wr.heap.size; omega)]; exact hBr) (by simp; omega)
      refine hpx.mono ?_
      clear hpx
      rintro e w2 ⟨rfl, HK2⟩
      have hb2 : w2.heap[wr.heap.size]? = some (.cells #[.int .u64 x.f0, .int .i64 x.f1, .int .i64 x.f2] 44 (0, 0)) := (HK2.block _ (by simp)).trans (by simpa using heap_alloc_new wr _)
      have y0 : w2.cell? ⟨wr.heap.size, 0, none⟩ = some (.int .u64 x.f0) := (blk_cell hb2 0).trans rfl
      have y1 : w2.cell? ⟨wr.heap.size, 1, none⟩ = some (.int .i64 x.f1) := (blk_cell hb2 1).trans rfl
      have y2 : w2.cell? ⟨wr.heap.size, 2, none⟩ = some (.int .i64 x.f2) := (blk_cell hb2 2).trans rfl
      have HWR : Aside0 (Below wr.heap.size wr w2) := ⟨((Below.refl _ wr).alloc (Nat.le_refl _) _).trans (HK2.mono (by simp))⟩
      have HW2 : Aside0 (Below w.heap.size w w2) := ⟨HW.out.trans (HWR.out.mono hsz)⟩
      have HR2 := Aside0.mk (Kd.R_below HR.out HWR.out)
      have hsz2 := HW2.out.size
      have HTK : Aside0 ((xs.take (k + 1)).filter (fun x => x.f1 != node) = (xs.take k).filter (fun x => x.f1 != node) ++ (if (x.f1 != node) = true then [x] else [])) := ⟨by
        rw [List.take_succ_eq_append_getElem hlt, List.filter_append, ← HX.out]
        congr 1
        simp [List.filter_cons]⟩
      have hle : ((xs.take k).filter (fun x => x.f1 != node)).length ≤ 1000 := Nat.le_trans (List.length_filter_le _ _) (by rw [List.length_take]; omega)
      clear hb2 HK2 HWR HR HW hBr hx0 hx1 hx2
      by_cases hp : (x.f1 != node) = true
      · rw [if_pos hp] at HTK
        rw [hp]
        generalize (xs.take k).filter (fun x => x.f1 != node) = zs at HTK hle HR2
        go_wp2_with (first | (at_builtin; refine Kd.R_append k53 (w0 := w) w.heap.size rfl (.tmp 15) (.tmp 17) 41 44 (.agg #[(.int .u64 0), (.int .i64 0), (.int .i64 0)]) 24 rfl Try.underlying41 info44 rfl (by decide) (by omega) u3 zs x [.int .u64 x.f0, .int .i64 x.f1, .int .i64 x.f2] (fun _ => True) (fun _ => False) rfl (by first | (go_simp; done) | (go_simp; rfl)) (k53_mkM _ _ _ x) (fun _ hk => hk.elim) (fun _ _ => trivial) HR2.out HW2.out hsz2 (by omega) ?_; intro v3 w3 ho hb hg hat; have HR3 := Aside0.mk ho; have HW3 := Aside0.mk hb; clear ho hb hg hat) | fail)
        go_roundw
        case rel => exact ⟨k + 1, hlt, by simp, ⟨by rw [HTK.out]; exact HR3.out⟩, HW3⟩
        case measure => simp [intOf]; omega
      · have hp' : (x.f1 != node) = false := by simpa using hp
        rw [if_neg hp, List.append_nil] at HTK
        rw [hp']
        go_wp2_with (fail)
        go_roundw
        case rel => exact ⟨k + 1, hlt, by simp, ⟨by rw [HTK.out]; exact HR2.out⟩, HW2⟩
        case measure => simp [intOf]; omega
    · obtain rfl : k = xs.length := by omega
      have hbr := (HW.out.block r hgl).trans HBK.out
      have hcr : wr.cell? ⟨r, 0, none⟩ = some (.slice A xs.length c) := (blk_cell hbr 0).trans rfl
      have hfr := blk_frozen hbr 0
      have HBR := Aside0.mk hbr
      have hsz := HW.out.size
      clear hbr
      obtain ⟨Aq, cq, rfl⟩ := Kd.R_slice HR.out
      have HRT := HR.out
      clear HR
      rw [List.take_length] at HRT ⊢
      generalize hnq : (xs.filter (fun x => x.f1 != node)).length = nq at HRT ⊢
      have HR := Aside0.mk HRT
      clear HRT hnq
      go_wp2_with (fail)
      have HS := Kd.R_set HR.out HBR.out (by intro q hq; simp [k53, Kd.iso, Kd.pair, Kd.int, Kd.scalar] at hq; omega) 0 (.slice Aq nq cq)
      go_end0
      refine ⟨rfl, RowAt.of_R (w0 := w) (v := .slice Aq nq cq) (by simpa using blk_set HBR.out 0 (.slice Aq nq cq)) HS hgl, KeepBut.set_ (KeepBut.of_below HW.out r none) _ _, (HW.out.mono (Nat.le_of_lt hgl)).setCell (p := ⟨r, 0, none⟩) (Nat.le_refl r) _⟩
end Go.Proofs.Ytbahpfmfjeafnaa.PA
