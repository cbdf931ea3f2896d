/- keep with Forget's and Gone's tests: what is left of the places are those of other ports, of other nodes. -/
import Derived.Test.YtbahpfmfjeafnaaH20
namespace Go.Proofs.Ytbahpfmfjeafnaa.PA
open Go.RowKit Go.Proofs.YtbahpfmfjeafnaaW.PrintWords Go.Proofs.YtbahpfmfjeafnaaW.PrintLast Go.Proofs.YtbahpfmfjeafnaaW.PrintMore
set_option linter.unusedVariables false
set_option linter.unusedSimpArgs false
theorem info53 : (Try.prog.info? 53).map (fun i => (i.zero, i.size, i.bytes)) = some (some (.agg #[(.int .u64 0), (.int .i64 0), (.int .i64 0)]), 3, 24) := by kernel_rfl
set_option maxHeartbeats 1600000 in
set_option maxRecDepth 100000 in
theorem keep20 (w : World) (g : Nat) (A : Option Addr) (c : Nat) (xs : List S53) (age port : Int) (B : Nat)
    (hb : w.heap[g]? = some (.cells #[.slice A xs.length c, .int .i64 age] 51 (0, 0))) (hC : Kd.C k53 w A xs.length xs)
    (hB : w.cell? ⟨B, 0, none⟩ = some (.int .u64 port)) (hBl : B < w.heap.size) (hn : xs.length ≤ 1000) :
    Calls Try.prog 19 #[.pointer (some ⟨g, 0, none⟩), .func (.func 20) #[] #[.pointer (some ⟨B, 0, none⟩)]] w fun e w' =>
      e = .returned (.tuple #[]) ∧ ∃ v, w'.heap[g]? = some (.cells #[v, .int .i64 age] 51 (0, 0)) ∧ Kd.R k53 53 w' w.heap.size (fun _ => True) v (xs.filter (fun x => x.f0 != port)) ∧ KeepBut w w' g none ∧ Below g w w' := by
  have hc0 := cellS51_0 hb
  have hgl := blk_lt hb
  have HC := Aside0.mk hC
  have HBK := Aside0.mk hb
  clear hC hb
  go_enter Try.func19, Try.ntmps19
  go_wp2
  go_loopw [4, 12] (fun v iv wr => ∃ k : Nat, k ≤ xs.length ∧ iv = .int .i64 k ∧ Aside0 (Kd.R k53 53 wr w.heap.size (fun _ => True) v ((xs.take k).filter (fun x => x.f0 != port))) ∧ Aside0 (Below w.heap.size w wr)) (fun _ iv _ => xs.length - (intOf iv).toNat)
  case atStart => exact ⟨0, Nat.zero_le _, rfl, ⟨Kd.R_nil _ _ _ _ _⟩, ⟨Below.refl _ _⟩⟩
  case round =>
    obtain ⟨k, hk, rfl, HR, HW⟩ := hrel
    by_cases hlt : k < xs.length
    · obtain ⟨ad, hA, hx0, hx1, hx2⟩ := at_T53 HC.out (k : Int) (by omega) (by omega)
      replace hx0 := pw_cell_below HW.out hx0
      replace hx1 := pw_cell_below HW.out hx1
      replace hx2 := pw_cell_below HW.out hx2
      cases hA
      rw [Int.toNat_natCast] at hx0 hx1 hx2
      have HX : Aside0 (rd_T53 xs (k : Int) = xs[k]) := ⟨by simp [rd_T53, List.getD_eq_getElem?_getD, List.getElem?_eq_getElem hlt]⟩
      generalize rd_T53 xs (k : Int) = x at hx0 hx1 hx2 HX
      have hBr := pw_cell_below HW.out hB
      have hsz := HW.out.size
      go_wp2_with (fail)
      refine (forget1 x port B _ (by rw [World.cell?_alloc_past _ _ _ (by show B < wr.heap.size; omega)]; exact hBr) (by simp; omega)).mono ?_
      rintro e w2 ⟨rfl, HK2⟩
      have hb2 : w2.heap[wr.heap.size]? = some (.cells #[.int .u64 x.f0, .int .i64 x.f1, .int .i64 x.f2] 53 (0, 0)) := (HK2.block _ (by simp)).trans (by simpa using heap_alloc_new wr _)
      have y0 : w2.cell? ⟨wr.heap.size, 0, none⟩ = some (.int .u64 x.f0) := (blk_cell hb2 0).trans rfl
      have y1 : w2.cell? ⟨wr.heap.size, 1, none⟩ = some (.int .i64 x.f1) := (blk_cell hb2 1).trans rfl
      have y2 : w2.cell? ⟨wr.heap.size, 2, none⟩ = some (.int .i64 x.f2) := (blk_cell hb2 2).trans rfl
      have HWR : Aside0 (Below wr.heap.size wr w2) := ⟨((Below.refl _ wr).alloc (Nat.le_refl _) _).trans (HK2.mono (by simp))⟩
      have HW2 : Aside0 (Below w.heap.size w w2) := ⟨HW.out.trans (HWR.out.mono hsz)⟩
      have HR2 := Aside0.mk (Kd.R_below HR.out HWR.out)
      have hsz2 := HW2.out.size
      have HTK : Aside0 ((xs.take (k + 1)).filter (fun x => x.f0 != port) = (xs.take k).filter (fun x => x.f0 != port) ++ (if (x.f0 != port) = true then [x] else [])) := ⟨by
        rw [List.take_succ_eq_append_getElem hlt, List.filter_append, ← HX.out]
        congr 1
        simp [List.filter_cons]⟩
      have hle : ((xs.take k).filter (fun x => x.f0 != port)).length ≤ 1000 := Nat.le_trans (List.length_filter_le _ _) (by rw [List.length_take]; omega)
      clear hb2 HK2 HWR HR HW hBr hx0 hx1 hx2
      by_cases hp : (x.f0 != port) = true
      · rw [if_pos hp] at HTK
        rw [hp]
        generalize (xs.take k).filter (fun x => x.f0 != port) = zs at HTK hle HR2
        go_wp2_with (first | (at_builtin; refine Kd.R_append k53 (w0 := w) w.heap.size rfl (.tmp 19) (.tmp 21) 49 53 (.agg #[(.int .u64 0), (.int .i64 0), (.int .i64 0)]) 24 rfl Try.underlying49 info53 rfl (by decide) (by omega) u4 zs x [.int .u64 x.f0, .int .i64 x.f1, .int .i64 x.f2] (fun _ => True) (fun _ => False) rfl (by first | (go_simp; done) | (go_simp; rfl)) (k53_mkM _ _ _ x) (fun _ hk => hk.elim) (fun _ _ => trivial) HR2.out HW2.out hsz2 (by omega) ?_; intro v3 w3 ho hb hg hat; have HR3 := Aside0.mk ho; have HW3 := Aside0.mk hb; clear ho hb hg hat) | fail)
        go_roundw
        case rel => exact ⟨k + 1, hlt, by simp, ⟨by rw [HTK.out]; exact HR3.out⟩, HW3⟩
        case measure => simp [intOf]; omega
      · have hp' : (x.f0 != port) = false := by simpa using hp
        rw [if_neg hp, List.append_nil] at HTK
        rw [hp']
        go_wp2_with (fail)
        go_roundw
        case rel => exact ⟨k + 1, hlt, by simp, ⟨by rw [HTK.out]; exact HR2.out⟩, HW2⟩
        case measure => simp [intOf]; omega
    · obtain rfl : k = xs.length := by omega
      have hbr := (HW.out.block g hgl).trans HBK.out
      have hcr := cellS51_0 hbr
      have hfr := blk_frozen hbr 0
      have HBR := Aside0.mk hbr
      have hsz := HW.out.size
      clear hbr
      obtain ⟨Aq, cq, rfl⟩ := Kd.R_slice HR.out
      have HRT := HR.out
      clear HR
      rw [List.take_length] at HRT ⊢
      generalize hnq : (xs.filter (fun x => x.f0 != port)).length = nq at HRT ⊢
      have HR := Aside0.mk HRT
      clear HRT hnq
      go_wp2_with (fail)
      have HS := Kd.R_set HR.out HBR.out (by intro q hq; simp [k53, Kd.iso, Kd.pair, Kd.int, Kd.scalar] at hq; omega) 0 (.slice Aq nq cq)
      go_end0
      exact ⟨rfl, _, by simpa using blk_set HBR.out 0 (.slice Aq nq cq), HS, KeepBut.set_ (KeepBut.of_below HW.out g none) _ _, (HW.out.mono (Nat.le_of_lt hgl)).setCell (p := ⟨g, 0, none⟩) (Nat.le_refl g) _⟩
set_option maxHeartbeats 1600000 in
set_option maxRecDepth 100000 in
theorem keep21 (w : World) (g : Nat) (A : Option Addr) (c : Nat) (xs : List S53) (age node : Int) (B : Nat)
    (hb : w.heap[g]? = some (.cells #[.slice A xs.length c, .int .i64 age] 51 (0, 0))) (hC : Kd.C k53 w A xs.length xs)
    (hB : w.cell? ⟨B, 0, none⟩ = some (.int .i64 node)) (hBl : B < w.heap.size) (hn : xs.length ≤ 1000) :
    Calls Try.prog 19 #[.pointer (some ⟨g, 0, none⟩), .func (.func 21) #[] #[.pointer (some ⟨B, 0, none⟩)]] w fun e w' =>
      e = .returned (.tuple #[]) ∧ ∃ v, w'.heap[g]? = some (.cells #[v, .int .i64 age] 51 (0, 0)) ∧ Kd.R k53 53 w' w.heap.size (fun _ => True) v (xs.filter (fun x => x.f1 != node)) ∧ KeepBut w w' g none ∧ Below g w w' := by
  have hc0 := cellS51_0 hb
  have hgl := blk_lt hb
  have HC := Aside0.mk hC
  have HBK := Aside0.mk hb
  clear hC hb
  go_enter Try.func19, Try.ntmps19
  go_wp2
  go_loopw [4, 12] (fun v iv wr => ∃ k : Nat, k ≤ xs.length ∧ iv = .int .i64 k ∧ Aside0 (Kd.R k53 53 wr w.heap.size (fun _ => True) v ((xs.take k).filter (fun x => x.f1 != node))) ∧ Aside0 (Below w.heap.size w wr)) (fun _ iv _ => xs.length - (intOf iv).toNat)
  case atStart => exact ⟨0, Nat.zero_le _, rfl, ⟨Kd.R_nil _ _ _ _ _⟩, ⟨Below.refl _ _⟩⟩
  case round =>
    obtain ⟨k, hk, rfl, HR, HW⟩ := hrel
    by_cases hlt : k < xs.length
    · obtain ⟨ad, hA, hx0, hx1, hx2⟩ := at_T53 HC.out (k : Int) (by omega) (by omega)
      replace hx0 := pw_cell_below HW.out hx0
      replace hx1 := pw_cell_below HW.out hx1
      replace hx2 := pw_cell_below HW.out hx2
      cases hA
      rw [Int.toNat_natCast] at hx0 hx1 hx2
      have HX : Aside0 (rd_T53 xs (k : Int) = xs[k]) := ⟨by simp [rd_T53, List.getD_eq_getElem?_getD, List.getElem?_eq_getElem hlt]⟩
      generalize rd_T53 xs (k : Int) = x at hx0 hx1 hx2 HX
      have hBr := pw_cell_below HW.out hB
      have hsz := HW.out.size
      go_wp2_with (fail)
      refine (gone1 x node B _ (by rw [World.cell?_alloc_past _ _ _ (by show B < wr.heap.size; omega)]; exact hBr) (by simp; omega)).mono ?_
      rintro e w2 ⟨rfl, HK2⟩
      have hb2 : w2.heap[wr.heap.size]? = some (.cells #[.int .u64 x.f0, .int .i64 x.f1, .int .i64 x.f2] 53 (0, 0)) := (HK2.block _ (by simp)).trans (by simpa using heap_alloc_new wr _)
      have y0 : w2.cell? ⟨wr.heap.size, 0, none⟩ = some (.int .u64 x.f0) := (blk_cell hb2 0).trans rfl
      have y1 : w2.cell? ⟨wr.heap.size, 1, none⟩ = some (.int .i64 x.f1) := (blk_cell hb2 1).trans rfl
      have y2 : w2.cell? ⟨wr.heap.size, 2, none⟩ = some (.int .i64 x.f2) := (blk_cell hb2 2).trans rfl
      have HWR : Aside0 (Below wr.heap.size wr w2) := ⟨((Below.refl _ wr).alloc (Nat.le_refl _) _).trans (HK2.mono (by simp))⟩
      have HW2 : Aside0 (Below w.heap.size w w2) := ⟨HW.out.trans (HWR.out.mono hsz)⟩
      have HR2 := Aside0.mk (Kd.R_below HR.out HWR.out)
      have hsz2 := HW2.out.size
      have HTK : Aside0 ((xs.take (k + 1)).filter (fun x => x.f1 != node) = (xs.take k).filter (fun x => x.f1 != node) ++ (if (x.f1 != node) = true then [x] else [])) := ⟨by
        rw [List.take_succ_eq_append_getElem hlt, List.filter_append, ← HX.out]
        congr 1
        simp [List.filter_cons]⟩
      have hle : ((xs.take k).filter (fun x => x.f1 != node)).length ≤ 1000 := Nat.le_trans (List.length_filter_le _ _) (by rw [List.length_take]; omega)
      clear hb2 HK2 HWR HR HW hBr hx0 hx1 hx2
      by_cases hp : (x.f1 != node) = true
      · rw [if_pos hp] at HTK
        rw [hp]
        generalize (xs.take k).filter (fun x => x.f1 != node) = zs at HTK hle HR2
        go_wp2_with (first | (at_builtin; refine Kd.R_append k53 (w0 := w) w.heap.size rfl (.tmp 19) (.tmp 21) 49 53 (.agg #[(.int .u64 0), (.int .i64 0), (.int .i64 0)]) 24 rfl Try.underlying49 info53 rfl (by decide) (by omega) u4 zs x [.int .u64 x.f0, .int .i64 x.f1, .int .i64 x.f2] (fun _ => True) (fun _ => False) rfl (by first | (go_simp; done) | (go_simp; rfl)) (k53_mkM _ _ _ x) (fun _ hk => hk.elim) (fun _ _ => trivial) HR2.out HW2.out hsz2 (by omega) ?_; intro v3 w3 ho hb hg hat; have HR3 := Aside0.mk ho; have HW3 := Aside0.mk hb; clear ho hb hg hat) | fail)
        go_roundw
        case rel => exact ⟨k + 1, hlt, by simp, ⟨by rw [HTK.out]; exact HR3.out⟩, HW3⟩
        case measure => simp [intOf]; omega
      · have hp' : (x.f1 != node) = false := by simpa using hp
        rw [if_neg hp, List.append_nil] at HTK
        rw [hp']
        go_wp2_with (fail)
        go_roundw
        case rel => exact ⟨k + 1, hlt, by simp, ⟨by rw [HTK.out]; exact HR2.out⟩, HW2⟩
        case measure => simp [intOf]; omega
    · obtain rfl : k = xs.length := by omega
      have hbr := (HW.out.block g hgl).trans HBK.out
      have hcr := cellS51_0 hbr
      have hfr := blk_frozen hbr 0
      have HBR := Aside0.mk hbr
      have hsz := HW.out.size
      clear hbr
      obtain ⟨Aq, cq, rfl⟩ := Kd.R_slice HR.out
      have HRT := HR.out
      clear HR
      rw [List.take_length] at HRT ⊢
      generalize hnq : (xs.filter (fun x => x.f1 != node)).length = nq at HRT ⊢
      have HR := Aside0.mk HRT
      clear HRT hnq
      go_wp2_with (fail)
      have HS := Kd.R_set HR.out HBR.out (by intro q hq; simp [k53, Kd.iso, Kd.pair, Kd.int, Kd.scalar] at hq; omega) 0 (.slice Aq nq cq)
      go_end0
      exact ⟨rfl, _, by simpa using blk_set HBR.out 0 (.slice Aq nq cq), HS, KeepBut.set_ (KeepBut.of_below HW.out g none) _ _, (HW.out.mono (Nat.le_of_lt hgl)).setCell (p := ⟨g, 0, none⟩) (Nat.le_refl g) _⟩
end Go.Proofs.Ytbahpfmfjeafnaa.PA
